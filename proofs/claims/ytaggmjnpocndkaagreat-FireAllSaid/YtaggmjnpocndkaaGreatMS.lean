/- Walks: shadows: hosts, ways up through hosts, what is told of a node to another one. A range over an iterator that lays blocks of its own between two rounds: the blocks that the loop's body turns are told by those that are there. No conditions. Walk: what an iterator over numbers hands over that lays blocks of its own, collected in a list. Regions that draw their order, within a round of a range over an iterator: by a plan. No conditions. -/
import Derived.Test.YtaggmjnpocndkaaGreatMD
import Derived.Test.YtaggmjnpocndkaaGreatMP
import Derived.Test.YtaggmjnpocndkaaGreatMA
import Derived.ScopeJumps
import Derived.WalkMore
namespace Go.Proofs.Lime
open Go.RowKit
set_option linter.unusedVariables false
set_option linter.unusedSimpArgs false

theorem topR_none {t : List Nd} {n : Int} (h : ¬ (mayT t = true ∧ isN t n = true)) : topR t n = -1 := if_neg h
theorem host_r {S : Nat → Prop} {w : World} {v : Value} {t : List Nd} (hr : Row nodeK S w v t) (hks : KidsOk t) (n : Int) :
    Calls Tryz.prog 71 #[v, .int .i64 n] w fun e w' => e = .returned (.int .i64 (hostR t n)) ∧ Stp w w' := by
  obtain ⟨A, c, rfl, hc, hm⟩ := hr.form
  have ct := fun W (hW : Stp w W) => otop_r (hr.stp hW) hks n
  by_cases ho : mayT t = true ∧ isN t n = true
  · have M := May.of ho.1
    have HR := Lib.hid (show hostR t n = (nd t (topT t n)).host from if_pos ho)
    rw [show topR t n = topT t n from if_pos ho] at ct
    obtain ⟨k, hk, hkt⟩ := isN_nat (M.topT_isN ho.2)
    rw [hk] at ct
    have HR2 := Lib.hid (show hostR t n = t[k].host by rw [HR.out, hk, nd_nat hkt])
    obtain ⟨b, o, rfl, hS, hb, hN⟩ := tree_base hr (by omega)
    obtain ⟨Ak, ck, Aa, ca, N⟩ := hN k hkt
    generalize t[k] = x at N HR2
    have x4 := N.c4
    have hkz : (k : Int) < (t.length : Int) := by omega
    have hkn : ((k : Int) == -1) = false := by simp
    clear N hN hk ho HR
    go_enter Tryz.func71, Tryz.ntmps71
    go_wp2_with (go_at_call 67; refine (ct _ Lime.stp_).mono ?_; rintro e w1 ⟨rfl, hb1⟩; replace x4 := hb1.cell x4)
    go_ret
    exact ⟨ret_int (by rw [HR2.out]), by (exact Lime.stp_)⟩
  · have HR := Lib.hid (show hostR t n = -1 from if_neg ho)
    rw [topR_none ho] at ct
    clear ho
    go_enter Tryz.func71, Tryz.ntmps71
    go_wp2_with (go_at_call 67; refine (ct _ Lime.stp_).mono ?_; rintro e w1 ⟨rfl, hb1⟩)
    go_ret
    exact ⟨ret_int (by rw [HR.out]), by (exact Lime.stp_)⟩
theorem sis_r {S : Nat → Prop} {w : World} {v : Value} {t : List Nd} (hr : Row nodeK S w v t) (hks : KidsOk t) (n : Int) :
    Calls Tryz.prog 69 #[v, .int .i64 n] w fun e w' => e = .returned (.bool (mayT t && isN t n)) ∧ Stp w w' := by
  obtain ⟨A, c, rfl, hc, hm⟩ := hr.form
  have ct := fun W (hW : Stp w W) => otop_r (hr.stp hW) hks n
  by_cases ho : mayT t = true ∧ isN t n = true
  · have M := May.of ho.1
    rw [show topR t n = topT t n from if_pos ho] at ct
    obtain ⟨k, hk, hkt⟩ := isN_nat (M.topT_isN ho.2)
    rw [hk] at ct
    have hkn : ((k : Int) != -1) = true := by simp
    go_enter Tryz.func69, Tryz.ntmps69
    go_wp2_with (go_at_call 67; refine (ct _ Lime.stp_).mono ?_; rintro e w1 ⟨rfl, hb1⟩)
    go_ret
    exact ⟨ret_bool (by rw [ho.1, ho.2]; rfl), by (exact Lime.stp_)⟩
  · have HR := Lib.hid (show (mayT t && isN t n) = false by rw [← Bool.not_eq_true]; simpa using ho)
    rw [topR_none ho] at ct
    clear ho
    go_enter Tryz.func69, Tryz.ntmps69
    go_wp2_with (go_at_call 67; refine (ct _ Lime.stp_).mono ?_; rintro e w1 ⟨rfl, hb1⟩)
    go_ret
    exact ⟨ret_bool (by rw [HR.out]), by (exact Lime.stp_)⟩
/-- What 'Up' holds at its label. -/
structure SuSt (t : List Nd) (n : Int) (w : World) (m : Int) (v : Value) (W : World) : Prop where mk ::
  ok : isN t m = true
  stp : Stp w W
  own : ∃ acc, Own intK 3 (fun b => w.heap.size ≤ b) W v acc ∧ acc ++ upsT t m = upsT t n
def SuJ (t : List Nd) (n : Int) (w : World) (A : Option Addr) (c : Nat) (a : Act) (W : World) : Prop :=
  ∃ (m : Int) (v u6 u7 u8 u9 u10 u11 u12 u13 u14 u15 u16 : Value), a = { tmps := #[.slice A t.length c, .int .i64 m, undef, undef, .slice none 0 0, v, u6, u7, u8, u9, u10, u11, u12, u13, u14, u15, u16], defers := [] } ∧ Aside (SuSt t n w m v W)
/-- A scope with one label at its front: what holds at the label. -/
theorem scope_front {P : Program} {Q : Exit → Act → World → Prop} {a : Act} {w : World} {c X : Code} (l : Nat) (J : Act → World → Prop) (μ : Act → World → Nat) (hf : findLabel c l = some (.seq .skip X))
    (pass : ∀ a w, J a w → X.wp P (Exit.jump l (fun a' w' => J a' w' ∧ μ a' w' < μ a w) Q) a w)
    (first : (∀ a w, J a w → X.wp P (Exit.jump l J Q) a w) → c.wp P (Exit.jump l J Q) a w) : (Code.scope c).wp P Q a w :=
  wp_scope_jumps l J μ hf (first fun a w hJ => Code.wp_mono (fun e a w hq => by cases e <;> first | exact hq | exact ⟨hq.1, hq.2.1⟩) (pass a w hJ)) (fun a w hJ => wp_seq (wp_skip (pass a w hJ)))
theorem exit_jump {l : Nat} {J J' : Act → World → Prop} {Q : Exit → Act → World → Prop} (h : ∀ a w, J a w → J' a w) : ∀ e a w, Exit.jump l J Q e a w → Exit.jump l J' Q e a w := by
  intro e a w hq
  cases e <;> first | exact hq | exact ⟨hq.1, h _ _ hq.2⟩
theorem exit_jump_ret {l : Nat} {J : Act → World → Prop} {Q : Exit → Act → World → Prop} {a : Act} {w : World} : Exit.jump l J Q .ret a w = Q .ret a w := rfl
theorem exit_jump_normal {l : Nat} {J : Act → World → Prop} {Q : Exit → Act → World → Prop} {a : Act} {w : World} : Exit.jump l J Q .normal a w = Q .normal a w := rfl
theorem exit_jump_panic {l : Nat} {J : Act → World → Prop} {Q : Exit → Act → World → Prop} {a : Act} {w : World} {c : List PanicEntry} : Exit.jump l J Q (.panic c) a w = Q (.panic c) a w := rfl
attribute [local go_sem] exit_jump_ret exit_jump_normal exit_jump_panic
set_option maxHeartbeats 1000000 in
theorem sup_r {S : Nat → Prop} {w : World} {v : Value} {t : List Nd} (hr : Row nodeK S w v t) (hks : KidsOk t) (n : Int) :
    Calls Tryz.prog 70 #[v, .int .i64 n] w fun e w' => ∃ u, e = .returned u ∧ Own intK 3 (fun b => w.heap.size ≤ b) w' u (upsS t n) ∧ Stp w w' := by
  obtain ⟨A, c, rfl, hc, hm⟩ := hr.form
  by_cases ho : mayT t = true ∧ isN t n = true
  · have M := May.of ho.1
    have hn := ho.2
    have hm2 := Lib.hid ho.1
    have HR := Lib.hid (show upsS t n = upsT t n from if_pos ho)
    have hdl := M.len2
    have cu := fun W (hW : Stp w W) (m : Int) => oup_r (hr.stp hW) hks m
    have ch := fun W (hW : Stp w W) (m : Int) => host_r (hr.stp hW) hks m
    clear ho
    go_enter Tryz.func70, Tryz.ntmps70
    go_wp2
    refine scope_front 0 (SuJ t n w A c) (fun a W => dep t (intOf (a.tmps.getD 1 undef))) (by rfl) ?pass ?first
    case pass =>
      rintro _ W ⟨m, v, u6, u7, u8, u9, u10, u11, u12, u13, u14, u15, u16, rfl, hJ⟩
      have hmN := hJ.out.ok
      obtain ⟨acc, ho, hacc⟩ := hJ.out.own
      have HU := Lib.hid (show upsR t m = upsP t m from if_pos ⟨hm2.out, hmN⟩)
      have chm := fun W (hW : Stp w W) => ch W hW m
      rw [show hostR t m = hostT t m from if_pos ⟨hm2.out, hmN⟩] at chm
      have hsp := M.ups_split hmN
      have hul := M.upsP_le hmN
      have hal : acc.length ≤ 64 := by
        have h1 : (upsT t n).length ≤ t.length := M.dep_le hn
        rw [← hacc, List.length_append] at h1
        omega
      have hst := hJ.out.stp
      have ho1 := Lib.hid ho
      rw [hsp, ← List.append_assoc] at hacc
      have HX := Lib.hid hacc
      clear hacc ho hsp
      generalize upsP t m = ps at HU HX hul
      by_cases hh : hostT t m = -1
      · have HX2 := Lib.hid (show acc ++ ps = upsT t n by have := HX.out; rw [hh, upsT_none, List.append_nil] at this; exact this)
        rw [hh] at chm
        clear hh
        go_wp2_with (first | (go_at_call 90; refine (cu _ Lime.stp_ m).mono ?_; rintro e w1 ⟨u, rfl, hu, hb1⟩; rw [HU.out] at hu; have hu2 := Lib.hid hu; clear hu) | (at_builtin; go_loud (refine wpl_appendrow (d := intK) (S := (w.heap.size ≤ ·)) (T := fun b => W.heap.size ≤ b) (T' := fun _ => False) rfl (.tmp 6) (.tmp 9) 48 3 (.int .i64 0) 8 rfl Tryz.underlying48 infoInt rfl (by decide) (by decide) v acc u ps rfl rfl hu2.out.reads (fun _ _ h => h) (fun _ h => h.elim) (ho1.out.stp Lime.stp_) (fun k hk => Nat.le_trans (Stp.size Lime.stp_) hk) (by omega) ?_; intro v1 w2 ho2 hg2; have hb2 : Stp w w2 := Stp.grown Lime.stp_ hg2 ho1.out.blk)) | (go_at_call 71; refine (chm _ Lime.stp_).mono ?_; rintro e w3 ⟨rfl, hb3⟩))
        go_ret
        exact ⟨_, rfl, by rw [HR.out, ← HX2.out]; exact ho2.stp hb3, by (exact Lime.stp_)⟩
      have hhN := (M.host_or hmN).resolve_left hh
      have hhz : (hostT t m != -1) = true := by simp [hh]
      have hh2 := Lib.hid hh
      have hdd := Lib.hid (M.dep_host hmN hh)
      generalize hostT t m = h at chm hhz hhN HX hdd
      clear hh hh2
      go_wp2_with (first | (go_at_call 90; refine (cu _ Lime.stp_ m).mono ?_; rintro e w1 ⟨u, rfl, hu, hb1⟩; rw [HU.out] at hu; have hu2 := Lib.hid hu; clear hu) | (at_builtin; go_loud (refine wpl_appendrow (d := intK) (S := (w.heap.size ≤ ·)) (T := fun b => W.heap.size ≤ b) (T' := fun _ => False) rfl (.tmp 6) (.tmp 9) 48 3 (.int .i64 0) 8 rfl Tryz.underlying48 infoInt rfl (by decide) (by decide) v acc u ps rfl rfl hu2.out.reads (fun _ _ h => h) (fun _ h => h.elim) (ho1.out.stp Lime.stp_) (fun k hk => Nat.le_trans (Stp.size Lime.stp_) hk) (by omega) ?_; intro v1 w2 ho2 hg2; have hb2 : Stp w w2 := Stp.grown Lime.stp_ hg2 ho1.out.blk)) | (go_at_call 71; refine (chm _ Lime.stp_).mono ?_; rintro e w3 ⟨rfl, hb3⟩))
      apply wp_goto
      exact ⟨rfl, ⟨_, _, _, _, _, _, _, _, _, _, _, _, _, rfl, ⟨hhN, by (exact Lime.stp_), _, ho2.stp hb3, HX.out⟩⟩, hdd.out⟩
    case first =>
      intro hp
      go_wp2
      go_step3
      exact (‹∀ (a : Act) (w : World), Code.wp _ _ _ a w → _›) _ _ (hp _ _ ⟨n, _, _, _, _, _, _, _, _, _, _, _, _, rfl, ⟨hn, Stp.refl _, [], Own.nil _ _ _ _, rfl⟩⟩)
  · have HR := Lib.hid (show upsS t n = [] from if_neg ho)
    have cu := fun W (hW : Stp w W) => oup_r (hr.stp hW) hks n
    have ch := fun W (hW : Stp w W) => host_r (hr.stp hW) hks n
    rw [show upsR t n = [] from if_neg ho] at cu
    rw [show hostR t n = -1 from if_neg ho] at ch
    clear ho
    go_enter Tryz.func70, Tryz.ntmps70
    go_wp2
    refine scope_front 0 (fun a W => a = { tmps := #[.slice A t.length c, .int .i64 n, undef, undef, .slice none 0 0, .slice none 0 0, undef, undef, undef, undef, undef, undef, undef, undef, undef, undef, undef], defers := [] } ∧ W = w) (fun _ _ => 0) (by rfl) ?pass2 ?first2
    case pass2 =>
      rintro _ W ⟨rfl, rfl⟩
      have ho1 := Lib.hid (Own.nil intK 3 (fun b => W.heap.size ≤ b) W)
      go_wp2_with (first | (go_at_call 90; refine (cu _ Lime.stp_).mono ?_; rintro e w1 ⟨u, rfl, hu, hb1⟩; have hu2 := Lib.hid hu; clear hu) | (at_builtin; refine wpl_appendrow (d := intK) (S := (W.heap.size ≤ ·)) (T := fun b => W.heap.size ≤ b) (T' := fun _ => False) rfl (.tmp 6) (.tmp 9) 48 3 (.int .i64 0) 8 rfl Tryz.underlying48 infoInt rfl (by decide) (by decide) _ [] u [] rfl rfl hu2.out.reads (fun _ _ h => h) (fun _ h => h.elim) (ho1.out.stp Lime.stp_) (fun k hk => Nat.le_trans (Stp.size Lime.stp_) hk) (by simp) ?_; intro v1 w2 ho2 hg2; have hb2 : Stp W w2 := Stp.grown Lime.stp_ hg2 ho1.out.blk) | (go_at_call 71; refine (ch _ Lime.stp_).mono ?_; rintro e w3 ⟨rfl, hb3⟩))
      try rw [exit_jump_ret]
      go_ret
      exact ⟨_, rfl, by rw [HR.out]; exact ho2.stp hb3, by (exact Lime.stp_)⟩
    case first2 =>
      intro hp
      go_wp2
      go_step3
      exact (‹∀ (a : Act) (w : World), Code.wp _ _ _ a w → _›) _ _ (hp _ _ ⟨rfl, rfl⟩)
/-- What 'Retarget' holds at its label. -/
structure SrSt (t : List Nd) (holds : List Int) (r : Int) (w : World) (m : Int) (v : Value) (W : World) : Prop where mk ::
  ok : isN t m = true
  stp : Stp w W
  own : Own intK 3 (fun b => w.heap.size ≤ b) W v holds
  ret : retIn t holds (t.length + 1) m = r
def SrJ (t : List Nd) (b : Int) (holds : List Int) (r : Int) (w : World) (A : Option Addr) (c : Nat) (a : Act) (W : World) : Prop :=
  ∃ (m : Int) (v u8 u9 u10 u11 u12 u13 u14 u15 u16 u17 u18 u19 u20 u21 u22 u23 u24 u25 u26 u27 u28 u29 u30 u31 u32 u33 u34 u35 u36 u37 u38 : Value), a = { tmps := #[.slice A t.length c, .int .i64 m, .int .i64 b, undef, undef, undef, .int .i64 0, v, u8, u9, u10, u11, u12, u13, u14, u15, u16, u17, u18, u19, u20, u21, u22, u23, u24, u25, u26, u27, u28, u29, u30, u31, u32, u33, u34, u35, u36, u37, u38], defers := [] } ∧ Aside (SrSt t holds r w m v W)
set_option maxRecDepth 100000 in
set_option maxHeartbeats 2000000 in
theorem sret_r {S : Nat → Prop} {w : World} {v : Value} {t : List Nd} (hr : Row nodeK S w v t) (hks : KidsOk t) (a b : Int) :
    Calls Tryz.prog 50 #[v, .int .i64 a, .int .i64 b] w fun e w' => e = .returned (.int .i64 (retR t a b)) ∧ Stp w w' := by
  obtain ⟨A, c, rfl, hc, hm⟩ := hr.form
  have ci := fun W (hW : Stp w W) (m : Int) => sis_r (hr.stp hW) hks m
  have cia := fun W (hW : Stp w W) => ci W hW a
  have cib := fun W (hW : Stp w W) => ci W hW b
  by_cases ho : (mayT t && (isN t a && isN t b)) = true
  · have HR := Lib.hid (show retR t a b = retT t a b from if_pos ho)
    simp only [Bool.and_eq_true] at ho
    obtain ⟨hm1, ha, hb⟩ := ho
    have M := May.of hm1
    have hm2 := Lib.hid hm1
    rw [hm1, ha] at cia
    rw [hm1, hb] at cib
    have cu := fun W (hW : Stp w W) => sup_r (hr.stp hW) hks b
    rw [show upsS t b = upsT t b from if_pos ⟨hm1, hb⟩] at cu
    have hul : (upsT t b).length ≤ t.length := M.dep_le hb
    have hdl := M.len2
    have HT := Lib.hid (show retIn t (upsT t b) (t.length + 1) a = retT t a b from rfl)
    generalize retT t a b = r at HR HT
    generalize upsT t b = holds at cu hul HT
    have ha2 := Lib.hid ha
    clear hm1 ha hb ci
    go_enter Tryz.func50, Tryz.ntmps50
    go_wp2
    refine scope_front 0 (SrJ t b holds r w A c) (fun a W => dep t (intOf (a.tmps.getD 1 undef))) (by rfl) ?pass ?first
    case pass =>
      rintro _ W ⟨m, v, u8, u9, u10, u11, u12, u13, u14, u15, u16, u17, u18, u19, u20, u21, u22, u23, u24, u25, u26, u27, u28, u29, u30, u31, u32, u33, u34, u35, u36, u37, u38, rfl, hJ⟩
      have hmN := hJ.out.ok
      have hst := hJ.out.stp
      have ho1 := Lib.hid hJ.out.own
      have hret := hJ.out.ret
      have chm := fun W (hW : Stp w W) => host_r (hr.stp hW) hks m
      rw [show hostR t m = hostT t m from if_pos ⟨hm2.out, hmN⟩] at chm
      rw [M.retT_step hmN holds] at hret
      by_cases hh : hostT t m = -1
      · have HX := Lib.hid (show m = r by rw [if_neg (fun h => h.1 hh)] at hret; exact hret)
        rw [hh] at chm
        clear hh hret
        go_wp2_with (go_at_call 71; refine (chm _ Lime.stp_).mono ?_; rintro e w3 ⟨rfl, hb3⟩)
        try rw [exit_jump_ret]
        go_ret
        exact ⟨ret_int (by rw [HR.out, ← HX.out]), by (exact Lime.stp_)⟩
      have hhN := (M.host_or hmN).resolve_left hh
      have hdd := Lib.hid (M.dep_host hmN hh)
      obtain ⟨k, hk, hkt⟩ := isN_nat hhN
      rw [hk] at chm hret hdd hhN
      have hnk : nd t (k : Int) = t[k] := nd_nat hkt
      obtain ⟨b', o, rfl, hS, hb', hN⟩ := tree_base hr (by omega)
      obtain ⟨Ak, ck, Aa, ca, N⟩ := hN k hkt
      rw [hnk] at hret
      generalize t[k] = x at N hret
      have x5 := N.c5
      have hkz : (k : Int) < (t.length : Int) := by omega
      have hkn : ((k : Int) != -1) = true := by simp
      have hkn2 : (k : Int) ≠ -1 := by omega
      have hhN2 := Lib.hid hhN
      have cc := fun W' (hW' : Stp W W') => contains_c (ho1.out.stp hW').reads x.root
      clear N hN hk hnk hhN hh
      by_cases hin : x.root ∈ holds
      · have HX := Lib.hid (show m = r by rw [if_neg (fun h => h.2 hin)] at hret; exact hret)
        rw [show (holds.any (· == x.root)) = true from List.any_eq_true.2 ⟨_, hin, by simp⟩] at cc
        clear hret hin hkn2
        go_wp2_with (first | (go_at_call 71; refine (chm _ Lime.stp_).mono ?_; rintro e w3 ⟨rfl, hb3⟩; have x5 := Stp.cell (show Stp w w3 by (exact Lime.stp_)) x5) | (go_at_call 72; refine (cc _ Lime.stp_).mono ?_; rintro e w4 ⟨rfl, hb4⟩))
        try rw [exit_jump_ret]
        go_ret
        exact ⟨ret_int (by rw [HR.out, ← HX.out]), by (exact Lime.stp_)⟩
      · have HX := Lib.hid (show retIn t holds (t.length + 1) k = r by rw [if_pos ⟨hkn2, hin⟩] at hret; exact hret)
        rw [show (holds.any (· == x.root)) = false from Bool.eq_false_iff.2 (fun h => by obtain ⟨y, hy, he⟩ := List.any_eq_true.1 h; simp at he; exact hin (he ▸ hy))] at cc
        clear hret hin hkn2
        go_wp2_with (first | (go_at_call 71; refine (chm _ Lime.stp_).mono ?_; rintro e w3 ⟨rfl, hb3⟩; have x5 := Stp.cell (show Stp w w3 by (exact Lime.stp_)) x5) | (go_at_call 72; refine (cc _ Lime.stp_).mono ?_; rintro e w4 ⟨rfl, hb4⟩))
        apply wp_goto
        exact ⟨rfl, ⟨_, _, _, _, _, _, _, _, _, _, _, _, _, _, _, _, _, _, _, _, _, _, _, _, _, _, _, _, _, _, _, _, _, rfl, ⟨hhN2.out, by (exact Lime.stp_), ho1.out.stp Lime.stp_, HX.out⟩⟩, hdd.out⟩
    case first =>
      intro hp
      go_wp2_with (first | (go_at_call 69; refine (cia _ Lime.stp_).mono ?_; clear cia; rintro e w1 ⟨rfl, hb1⟩) | (go_at_call 69; refine (cib _ Lime.stp_).mono ?_; clear cib; rintro e w2 ⟨rfl, hb2⟩) | (go_at_call 70; refine (cu _ Lime.stp_).mono ?_; rintro e w3 ⟨u, rfl, hu, hb3⟩; have hu2 := Lib.hid hu; clear hu))
      go_step3
      exact (‹∀ (a : Act) (w : World), Code.wp _ _ _ a w → _›) _ _ (hp _ _ ⟨a, u, _, _, _, _, _, _, _, _, _, _, _, _, _, _, _, _, _, _, _, _, _, _, _, _, _, _, _, _, _, _, _, rfl, ⟨ha2.out, by (exact Lime.stp_), hu2.out.mono (fun k hk _ => Nat.le_trans (Stp.size Lime.stp_) hk), HT.out⟩⟩)
  · have HR := Lib.hid (show retR t a b = -1 from if_neg ho)
    have ho2 := Lib.hid ho
    clear ho ci
    rcases hA : (mayT t && isN t a) with _ | _
    · rw [hA] at cia
      clear hA cib
      go_enter Tryz.func50, Tryz.ntmps50
      go_wp2
      refine scope_front 0 (fun _ _ => False) (fun _ _ => 0) (by rfl) ?pass2 ?first2
      case pass2 => exact fun _ _ h => h.elim
      case first2 =>
        intro hp
        go_wp2_with (go_at_call 69; refine (cia _ Lime.stp_).mono ?_; clear cia; rintro e w1 ⟨rfl, hb1⟩)
        try rw [exit_jump_ret]
        go_ret
        exact ⟨ret_int (by rw [HR.out]), by (exact Lime.stp_)⟩
    · rw [hA] at cia
      have hB : (mayT t && isN t b) = false := by
        cases hb : (mayT t && isN t b)
        · rfl
        · exact absurd (by simp only [Bool.and_eq_true] at *; exact ⟨hA.1, hA.2, hb.2⟩) ho2.out
      rw [hB] at cib
      clear hA hB
      go_enter Tryz.func50, Tryz.ntmps50
      go_wp2
      refine scope_front 0 (fun _ _ => False) (fun _ _ => 0) (by rfl) ?pass3 ?first3
      case pass3 => exact fun _ _ h => h.elim
      case first3 =>
        intro hp
        go_wp2_with (first | (go_at_call 69; refine (cia _ Lime.stp_).mono ?_; clear cia; rintro e w1 ⟨rfl, hb1⟩) | (go_at_call 69; refine (cib _ Lime.stp_).mono ?_; clear cib; rintro e w2 ⟨rfl, hb2⟩))
        try rw [exit_jump_ret]
        go_ret
        exact ⟨ret_int (by rw [HR.out]), by (exact Lime.stp_)⟩
end Go.Proofs.Lime
namespace Go.Proofs.Lime
open Go.RowKit
set_option linter.unusedVariables false
set_option linter.unusedSimpArgs false

/-- What is told of blocks that are not there does not count. -/
def Bnd (J : Nat → (Nat → Prop) → World → Prop) : Prop := ∀ k O W, J k O W → J k (fun b => O b ∧ b < W.heap.size) W
/-- What an iterator owes that lays blocks of its own between two rounds. -/
def IterB {α : Type} (P : Program) (g : Nat) (lb : Array Value) (enc : α → Array Value) (C S : Nat → Prop) (xs : List α) (w : World) : Prop :=
  ∀ (l : Nat) (J Jx : Nat → (Nat → Prop) → World → Prop) (O : Nat → Prop) (W : World), Kpt O w W → (∀ b, O b → ¬ C b ∧ (b < w.heap.size → ¬ S b)) → Abide C W.heap.size J → Abide C W.heap.size Jx → Bnd J → Bnd Jx →
    (∀ k (hk : k < xs.length) (O : Nat → Prop) (W1 : World), J k O W1 → YieldAt Fence.wide 0 P l (enc xs[k]) W1 fun e W' => ∃ O', (∀ b, O' b → O b ∨ W1.heap.size ≤ b) ∧ Kpt O W1 W' ∧
      ((e = .returned (.bool true) ∧ J (k + 1) O' W') ∨ (e = .returned (.bool false) ∧ Jx (k + 1) O' W'))) →
    J 0 O W →
    CallsIn Fence.wide 0 P g (#[.func (.yield l) #[] #[]] ++ lb) W fun e W' => (∃ v, e = .returned v) ∧ ∃ O', J xs.length O' W' ∨ ∃ k, Jx k O' W'
theorem Iter.toB {α : Type} {P : Program} {g : Nat} {lb : Array Value} {enc : α → Array Value} {C S : Nat → Prop} {xs : List α} {w : World} (h : Iter P g lb enc C S xs w) : IterB P g lb enc C S xs w :=
  fun l J Jx O W hk hO hJ hJx _ _ hY h0 => h l J Jx O W hk hO hJ hJx hY h0
theorem IterB.later {α : Type} {P : Program} {g : Nat} {lb : Array Value} {enc : α → Array Value} {C S : Nat → Prop} {xs : List α} {w w0 : World} (h : IterB P g lb enc C S xs w) (hs : Stp w w0) : IterB P g lb enc C S xs w0 :=
  fun l J Jx O W hk hO => h l J Jx O W ((Kpt.of_stp hs).trans hk fun x hx => .inl hx) (fun b hb => ⟨(hO b hb).1, fun hl => (hO b hb).2 (Nat.lt_of_lt_of_le hl hs.size)⟩)

/-- **THE RANGE, over an iterator that lays blocks of its own.** -/
theorem wp_rangeB {α : Type} {P : Program} {g : Operand} {ps : Array Tmp} {assign body : Code} {Q : Exit → Act → World → Prop} {a : Act} {w : World} {gf : Nat} {lb : Array Value}
    (hg : a.eval g = .func (.func gf) #[] lb) (eg : ∀ args w, (callFunc gf args).run P w = .ok (.enter gf args) w) {enc : α → Array Value} {C S : Nat → Prop} {xs : List α} (hit : IterB P gf lb enc C S xs w) (hps : ∀ x, (enc x).size = ps.size)
    (hC : ∀ b, C b → b < w.heap.size) (O : Nat → Prop) (hO : ∀ b, O b → b < w.heap.size ∧ ¬ C b ∧ ¬ S b)
    (I : Nat → (Nat → Prop) → World → Prop) (Ix : Code → Nat → (Nat → Prop) → World → Prop) (hI : Abide C w.heap.size I) (hIx : ∀ c, Abide C w.heap.size (Ix c)) (hIb : Bnd I) (hIxb : ∀ c, Bnd (Ix c)) (h0 : I 0 O w) (a₁ : α → Act)
    (hassign : ∀ (l : Nat) (x : α) (W : World) (K : Act → World → Prop), K (a₁ x) W →
      assign.wpIn (Fence.wide.inRound l) 0 P (Exit.then K (fun _ _ _ => False)) { tmps := (ps.zip (enc x)).foldl (fun t (p, v) => t.setIfInBounds p v) a.tmps, defers := [] } W)
    (hbody : ∀ (l k : Nat) (hk : k < xs.length) (O : Nat → Prop) (W : World), I k O W → body.wpIn (Fence.wide.inRound l) 0 P (roundEnd I Ix k O W) (a₁ xs[k]) W)
    (hdone : ∀ (D : Nat) (O : Nat → Prop) (W : World), w.heap.size ≤ D → ¬ O D → I xs.length O W → W.heap[D]? = some (.deferred (some [])) → Q .normal { a with defers := { target := .collected D, args := #[] } :: a.defers } W)
    (hstop : ∀ (D : Nat) (c : Code) (k : Nat) (O : Nat → Prop) (W : World), w.heap.size ≤ D → ¬ O D → Ix c k O W → W.heap[D]? = some (.deferred (some [])) → c.wp P Q { a with defers := { target := .collected D, args := #[] } :: a.defers } W) :
    (Code.rangeFunc g ps assign body).wp P Q a w := by
  refine (wpIn_wide (n := 0)).1 (wpIn_rangeFunc fun fn hfn => ?_)
  obtain ⟨D, hD⟩ : ∃ D, D = w.heap.size := ⟨_, rfl⟩
  obtain ⟨L, hL⟩ : ∃ L : LoopState → Option Code → Obj, L = fun st pe => .loop ⟨st, pe, fn, a.tmps, ps, assign, body, D⟩ := ⟨_, rfl⟩
  obtain ⟨W1, hW1⟩ : ∃ W1, (w.alloc (.deferred (some []))).alloc (L .ready none) = W1 := ⟨_, rfl⟩
  have hs1 : W1.heap.size = D + 2 := by rw [← hW1, hD]; simp
  have hl1 : W1.heap[D + 1]? = some (L .ready none) := by
    have := World.alloc_heap_new (w.alloc (.deferred (some []))) (L .ready none)
    rw [← hW1, hD]; simpa using this
  have hd1 : W1.heap[D]? = some (.deferred (some [])) := by
    rw [← hW1, hD]
    exact (Below.heap_alloc _ _ _ (by simp)).trans (World.alloc_heap_new w _)
  have hst1 : Stp w W1 := by rw [← hW1]; exact ((Stp.refl w).alloc _).alloc _
  have hnO : ∀ b, O b → b < D := fun b hb => by rw [hD]; exact (hO b hb).1
  have hi1 : I 0 O W1 := hI 0 O w W1 h0 (Kpt.of_stp hst1)
  -- the book-keeping beside what the caller tells: the record, and the block for calls that are put off
  obtain ⟨J, hJ⟩ : ∃ J : LoopState → Option Code → (Nat → (Nat → Prop) → World → Prop) → Nat → (Nat → Prop) → World → Prop,
      J = fun st pe Y k O2 W => ∃ O, (∀ b, O2 b ↔ O b ∨ b = D + 1 ∨ b = D) ∧ ¬ O D ∧ ¬ O (D + 1) ∧ Y k O W ∧ W.heap[D + 1]? = some (L st pe) ∧ W.heap[D]? = some (.deferred (some [])) := ⟨_, rfl⟩
  have hsub : ∀ (O O2 : Nat → Prop), (∀ b, O2 b ↔ O b ∨ b = D + 1 ∨ b = D) → ∀ b, ItMay C W1.heap.size O2 b → ItMay C w.heap.size O b := by
    rintro O O2 h b ⟨h1, h2⟩
    exact ⟨fun hb => h1 ((h b).2 (.inl hb)), h2.imp id (fun h3 => by omega)⟩
  have hJA : ∀ st pe Y, Abide C w.heap.size Y → Abide C W1.heap.size (J st pe Y) := by
    intro st pe Y hY k O2 A B h hk
    rw [hJ] at h ⊢
    obtain ⟨O, h1, h2, h3, h4, h5, h6⟩ := h
    have keep : ∀ x o, O2 x → A.heap[x]? = some o → B.heap[x]? = some o := fun x o hx ho =>
      (hk.block x (Array.getElem?_eq_some_iff.1 ho).1 (fun hm => hm.1 hx)).trans ho
    exact ⟨O, h1, h2, h3, hY k O A B h4 (hk.mono fun x hx => .inl (hsub O O2 h1 x hx)), keep _ _ ((h1 _).2 (.inr (.inl rfl))) h5, keep _ _ ((h1 _).2 (.inr (.inr rfl))) h6⟩
  have hJB : ∀ st pe Y, Bnd Y → Bnd (J st pe Y) := by
    intro st pe Y hY k O2 A h
    rw [hJ] at h ⊢
    obtain ⟨O, h1, h2, h3, h4, h5, h6⟩ := h
    have l5 := (Array.getElem?_eq_some_iff.1 h5).1
    have l6 := (Array.getElem?_eq_some_iff.1 h6).1
    refine ⟨fun b => O b ∧ b < A.heap.size, fun b => ?_, fun h => h2 h.1, fun h => h3 h.1, hY k O A h4, h5, h6⟩
    show O2 b ∧ b < A.heap.size ↔ (O b ∧ b < A.heap.size) ∨ b = D + 1 ∨ b = D
    rw [h1 b]
    constructor
    · rintro ⟨h | rfl | rfl, hl⟩
      · exact .inl ⟨h, hl⟩
      · exact .inr (.inl rfl)
      · exact .inr (.inr rfl)
    · rintro (⟨h, hl⟩ | rfl | rfl)
      · exact ⟨.inl h, hl⟩
      · exact ⟨.inr (.inl rfl), l5⟩
      · exact ⟨.inr (.inr rfl), l6⟩
  refine ⟨D + 1, [{ target := .collected D, args := #[] }], W1, { target := .fn (.func gf) lb, args := #[.func (.yield (D + 1)) #[] #[]] }, W1, gf, #[.func (.yield (D + 1)) #[] #[]] ++ lb, W1, ?_, ?_, fun _ _ => trivial, ?_, fun h => by simp [Fence.wide] at h, ?_⟩
  · have := run_enterLoop_outer (P := P) (w := w) fn a.tmps ps assign body
    rw [← hW1, hL, hD]
    exact this
  · simp only [resolve, hg]
    simp [go_sem]
  · simp [invoke, go_sem, eg]
  · have hput : ∀ (W : World) (st st' : LoopState) (pe pe' : Option Code), W.heap[D + 1]? = some (L st pe) → (W.putObj (D + 1) (L st' pe')).heap[D + 1]? = some (L st' pe') := fun W _ _ _ _ h => World.putObj_heap_same (Array.getElem?_eq_some_iff.1 h).1
    have hputD : ∀ (W : World) (o : Obj), (W.putObj (D + 1) o).heap[D]? = W.heap[D]? := fun W o => World.putObj_heap_other (by omega)
    -- a turn of the record is an iterator's step, to what the caller tells
    have hrec : ∀ (Y : Nat → (Nat → Prop) → World → Prop), Abide C w.heap.size Y → ∀ k O W o, ¬ O (D + 1) → Y k O W → Y k O (W.putObj (D + 1) o) := fun Y hY k O W o hn h =>
      hY k O W _ h (Kpt.put W o ⟨hn, .inr (by omega)⟩)
    refine (hit (D + 1) (J .ready none I) (fun k O2 W => ∃ c, J .done (some c) (Ix c) k O2 W) (fun b => O b ∨ b = D + 1 ∨ b = D) W1 (Kpt.of_stp hst1) ?_ (hJA _ _ _ hI) (fun k O2 A B h hk => let ⟨c, hc⟩ := h; ⟨c, hJA _ _ _ (hIx c) k O2 A B hc hk⟩) (hJB _ _ _ hIb) (fun k O2 A h => let ⟨c, hc⟩ := h; ⟨c, hJB _ _ _ (hIxb c) k O2 A hc⟩) ?_ ?_).mono ?_
    · rintro b (hb | hb | hb)
      · exact ⟨(hO b hb).2.1, fun _ => (hO b hb).2.2⟩
      · exact ⟨fun h => by have := hC b h; omega, fun h => by omega⟩
      · exact ⟨fun h => by have := hC b h; omega, fun h => by omega⟩
    · intro k hk O2 W h
      rw [hJ] at h
      obtain ⟨O, h1, h2, h3, h4, h5, h6⟩ := h
      have hlt : D + 1 < W.heap.size := (Array.getElem?_eq_some_iff.1 h5).1
      have h5' := h5
      rw [hL] at h5'
      have hy := run_yield (P := P) (args := enc xs[k]) h5' (hps _)
      refine ⟨fn, _, assign, body, hy, roundIn_of_wpIn hfn (hassign _ xs[k] W _ ⟨_, run_beginRound h5' rfl, ?_⟩)⟩
      obtain ⟨W2, hW2⟩ : ∃ W2, W.putObj (D + 1) (L .busy none) = W2 := ⟨_, rfl⟩
      have e2 : W.putObj (D + 1) (.loop ⟨.busy, none, fn, a.tmps, ps, assign, body, D⟩) = W2 := by rw [← hW2, hL]
      have hl2 : W2.heap[D + 1]? = some (L .busy none) := by rw [← hW2]; exact hput W _ _ _ _ h5
      have hd2 : W2.heap[D]? = some (.deferred (some [])) := by rw [← hW2, hputD]; exact h6
      have hi2 : I k O W2 := by rw [← hW2]; exact hrec I hI k O W _ h3 h4
      have hs2 : W2.heap.size = W.heap.size := by rw [← hW2]; simp
      have hk2 : Kpt O2 W W2 := by rw [← hW2]; exact Kpt.put W _ ((h1 _).2 (.inr (.inl rfl)))
      show body.wpIn (Fence.wide.inRound (D + 1)) 0 P _ _ (W.putObj (D + 1) (.loop ⟨.busy, none, fn, a.tmps, ps, assign, body, D⟩))
      rw [e2]
      refine wpIn_mono (hbody (D + 1) k hk O W2 hi2) ?_
      have fin : ∀ (pe : Option Code) (W3 : World) (O' : Nat → Prop) (Y : Nat → (Nat → Prop) → World → Prop), Abide C w.heap.size Y → (∀ b, O' b → O b ∨ W2.heap.size ≤ b) → Kpt O W2 W3 → Y (k + 1) O' W3 →
          ∃ W4, (Instr.endRound (D + 1) pe).run P W3 = .ok (.bool pe.isNone) W4 ∧ (∀ b, (O' b ∨ b = D + 1 ∨ b = D) → O2 b ∨ W.heap.size ≤ b) ∧ Kpt O2 W W4 ∧ J (if pe.isNone then .ready else .done) pe Y (k + 1) (fun b => O' b ∨ b = D + 1 ∨ b = D) W4 := by
        intro pe W3 O' Y hY hO' hk3 hy3
        have hl3 : W3.heap[D + 1]? = some (L .busy none) := (hk3.block _ (by omega) h3).trans hl2
        have hd3 : W3.heap[D]? = some (.deferred (some [])) := (hk3.block _ (by omega) h2).trans hd2
        have hl3' := hl3
        rw [hL] at hl3'
        have hnD : ¬ O' D := fun h => (hO' D h).elim h2 (fun h => by omega)
        have hnL : ¬ O' (D + 1) := fun h => (hO' _ h).elim h3 (fun h => by omega)
        refine ⟨W3.putObj (D + 1) (L (if pe.isNone then .ready else .done) pe), ?_, ?_, ?_, ?_⟩
        · have := run_endRound (P := P) pe hl3'
          rw [hL]
          exact this
        · rintro b (hb | hb)
          · exact (hO' b hb).imp (fun h => (h1 b).2 (.inl h)) (fun h => by omega)
          · exact .inl ((h1 b).2 (.inr hb))
        · exact hk2.trans ((hk3.mono fun x hx => .inl ((h1 x).2 (.inl hx))).trans (Kpt.put W3 _ ((h1 _).2 (.inr (.inl rfl)))) fun x hx => .inl hx) fun x hx => .inl hx
        · rw [hJ]
          exact ⟨O', fun b => Iff.rfl, hnD, hnL, hrec Y hY _ _ _ _ hnL hy3, hput W3 _ _ _ _ hl3, (hputD W3 _).trans hd3⟩
      rintro e a3 W3 hp
      cases e with
      | normal =>
        obtain ⟨O', hO', hk3, hi3⟩ := hp
        obtain ⟨W4, hr, h7, h8, h9⟩ := fin none W3 O' I hI hO' hk3 hi3
        exact ⟨_, _, hr, _, h7, h8, .inl ⟨rfl, h9⟩⟩
      | ret =>
        obtain ⟨O', hO', hk3, hi3⟩ := hp
        obtain ⟨W4, hr, h7, h8, h9⟩ := fin (some .ret) W3 O' _ (hIx _) hO' hk3 hi3
        exact ⟨_, _, hr, _, h7, h8, .inr ⟨rfl, _, h9⟩⟩
      | exit id =>
        obtain ⟨O', hO', hk3, hi3⟩ := hp
        obtain ⟨W4, hr, h7, h8, h9⟩ := fin (some (.exit id)) W3 O' _ (hIx _) hO' hk3 hi3
        exact ⟨_, _, hr, _, h7, h8, .inr ⟨rfl, _, h9⟩⟩
      | goto t => exact hp.elim
      | panic ch => exact hp.elim
      | outgrown => exact hp.elim
    · rw [hJ]
      exact ⟨O, fun b => Iff.rfl, fun h => by have := hnO _ h; omega, fun h => by have := hnO _ h; omega, hi1, hl1, hd1⟩
    · rintro e W2 ⟨⟨v, rfl⟩, O2, h | ⟨k, c, h⟩⟩
      all_goals
        rw [hJ] at h
        obtain ⟨O, h1, h2, h3, h4, h5, h6⟩ := h
        have h5' := h5
        rw [hL] at h5'
      · refine ⟨none, _, run_endLoop (P := P) h5' (by simp), hdone D O _ (by omega) h2 (hrec I hI _ _ _ _ h3 h4) ?_⟩
        rw [hputD]; exact h6
      · refine ⟨some c, _, run_endLoop (P := P) h5' (by simp), (wpIn_wide (n := 0)).2 (hstop D c k O _ (by omega) h2 (hrec _ (hIx c) _ _ _ _ h3 h4) ?_)⟩
        rw [hputD]; exact h6

end Go.Proofs.Lime
namespace Go.Proofs.Lime
open Go.RowKit
set_option linter.unusedVariables false
set_option linter.unusedSimpArgs false
attribute [local go_sem] Oper.semAt_some

theorem coSt_bnd (C : Nat → Prop) (xs : List Int) (B : Nat) (w : World) : Bnd (CoSt C xs B w) := by
  intro k O W h
  obtain ⟨h1, h2, h3, v, h4, h5⟩ := h
  exact ⟨⟨h1, h4.lt⟩, fun b hb => h2 b hb.1, h3, v, h4, h5.mono fun k hk hl => ⟨⟨hk.1, hl⟩, hk.2⟩⟩
set_option maxHeartbeats 1000000 in
theorem appendSeqB_c {C S : Nat → Prop} {gf : Nat} {lb : Array Value} {xs : List Int} {w : World} (eg : ∀ args w, (callFunc gf args).run Tryz.prog w = .ok (.enter gf args) w) (hit : IterB Tryz.prog gf lb (fun x : Int => #[.int .i64 x]) C S xs w)
    (hC : ∀ b, C b → b < w.heap.size) (hS : ∀ b, S b → b < w.heap.size) (hx : xs.length ≤ 1000000) :
    Calls Tryz.prog 115 #[.slice none 0 0, .func (.func gf) #[] lb] w fun e w' => ∃ v, e = .returned v ∧ Own intK 3 (fun b => w.heap.size ≤ b) w' v xs ∧ Kpt C w w' := by
  refine (callsIn_wide (n := 0)).1 (callsIn_of_wp_marks Tryz.func115 rfl trivial (wpIn_wide.2 ?_) rfl); simp only [Tryz.ntmps115, List.size_toArray, List.length_cons, List.length_nil, Nat.reduceAdd, Nat.reduceSub, Array.replicate_succ, Array.replicate_zero, List.push_toArray, List.append_toArray, List.nil_append, List.cons_append]
  go_wp2
  obtain ⟨w0, hw0⟩ : ∃ w0, w.alloc (.cells #[.slice none 0 0] 48) = w0 := ⟨_, rfl⟩
  have hb0 : Boxed w0 w.heap.size 48 (.slice none 0 0) := by rw [← hw0]; exact Boxed.new _ _ _
  have hs0 : Stp w w0 := by rw [← hw0]; exact (Stp.refl w).alloc _
  have hz0 : w0.heap.size = w.heap.size + 1 := by rw [← hw0]; simp
  rw [hw0]
  clear hw0
  generalize hB : w.heap.size = B at *
  refine wp_rangeB (gf := gf) (lb := lb) rfl eg (hit.later hs0) (fun _ => rfl) (fun b hb => by have := hC b hb; omega) (· = B) (fun b hb => ?_) (CoSt C xs B w0) (fun _ _ _ _ => False) (coSt_abide C xs B w0) (fun _ _ _ _ _ h _ => h) (coSt_bnd C xs B w0) (fun _ _ _ _ h => h.elim) ?_ (fun x => { tmps := #[.slice none 0 0, .func (.func gf) #[] lb, .pointer (some ⟨B, 0, none⟩), undef, .slice none 0 0, .int .i64 x, .func (.func gf) #[] lb, .int .i64 x, undef, undef, undef, undef, undef], defers := [] }) ?_ ?_ ?_ ?_
  · subst hb
    exact ⟨by omega, fun h => by have := hC b h; omega, fun h => by have := hS b h; omega⟩
  · exact ⟨rfl, fun b hb => by omega, Kpt.refl _ _, _, hb0, Own.nil _ _ _ _⟩
  · intro l x W K hK
    gi_wp2
    exact hK
  · intro l k hk O W hI
    obtain ⟨h1, h2, h3, v, h4, h5⟩ := hI
    have hcB := Boxed.cell h4
    have hfB := Boxed.frozen h4
    have hxk := Lib.hid (List.take_succ_eq_append_getElem hk)
    generalize xs[k] = x at hxk
    have hnB : v.ownBlock ≠ some B := fun e => (h5.blk B e).2 rfl
    have hBW := h4.lt
    have hk1 := Lib.hid (show ((xs.take k).length + [x].length) * 8 ≤ 140737488355328 by simp; omega)
    have HO := Lib.hid ((h5.stp ((Stp.refl W).alloc (.cells #[.int .i64 x] 3))).mono (S' := fun b => b ≠ B ∧ (O b ∨ W.heap.size ≤ b)) fun k hk _ => ⟨hk.2, .inl hk.1⟩)
    have hx1 : (x : Int) = x := rfl
    gi_wp2_with (gi_at_builtin; go_loud (refine wplI_appendrow (d := intK) (S := fun b => b ≠ B ∧ (O b ∨ W.heap.size ≤ b)) (T := fun b => b = W.heap.size) (T' := fun _ => False) rfl (.tmp 8) (.tmp 10) 48 3 (.int .i64 0) 8 rfl Tryz.underlying48 infoInt rfl (by decide) (by decide) v (xs.take k) _ [x] rfl rfl (Row.box (World.alloc_heap_new W _) rfl rfl) (fun _ _ h => h) (fun _ h => h.elim) HO.out (fun k hk => by rw [World.size_alloc] at hk; exact ⟨by omega, .inr (by omega)⟩) hk1.out ?_; intro v1 w1 ho hg; have hb1 := Boxed.grown (Boxed.alloc h4 (.cells #[.int .i64 x] 3)) hg hnB; have hc1 := Boxed.cell hb1; have hf1 := Boxed.frozen hb1; obtain ⟨A1, n1, c1, e1⟩ : ∃ A1 n1 c1, v1 = .slice A1 n1 c1 := (let ⟨A1, c1, e⟩ := ho.reads.slice; ⟨A1, _, c1, e⟩); subst e1))
    have hg2 : W.grownBy w1 v.ownBlock := World.grownBy.trans (World.grownBy_alloc W _ _) hg
    have hkp : Kpt O W (w1.setCell ⟨B, 0, none⟩ (.slice A1 n1 c1)) := kpt_store (Kpt.of_grown hg2 fun k e => (h5.blk k e).1) h1
    refine ⟨fun b => O b ∨ (W.heap.size ≤ b ∧ b < w1.heap.size), fun b hb => hb.imp id And.left, hkp, .inl h1, fun b hb => hb.elim (h2 b) (fun h => by omega), ?_, _, Boxed.set _ hb1, ?_⟩
    · refine h3.trans hkp fun b hb => ?_
      have := h2 b hb
      rcases Nat.lt_or_ge B b with h | h
      · exact .inr (by omega)
      · exact .inl (.inr (by omega))
    · rw [hxk.out]
      have ho2 := ho.mono (S' := fun b => (O b ∨ (W.heap.size ≤ b ∧ b < w1.heap.size)) ∧ b ≠ B) fun k hk hl => ⟨hk.2.imp id (fun h => ⟨h, hl⟩), hk.1⟩
      exact ho2.move fun k hk _ => Below.heap_setCell w1 ⟨B, 0, none⟩ _ k hk.2
  · intro D O W hD hn hI hWD
    obtain ⟨h1, h2, h3, v, h4, h5⟩ := hI
    have hcB := Boxed.cell h4
    rw [List.take_of_length_le (Nat.le_refl _)] at h5
    go_wp2
    refine leaves_mark hWD (results_tmp rfl _ _ _) ⟨v, rfl, ?_, ?_⟩
    · exact (h5.move fun k hk _ => World.putObj_heap_other (fun e => hn (by first | (rw [← e]; exact hk.1) | (rw [e]; exact hk.1)))).mono fun k hk _ => by have := h2 k hk.1; omega
    · exact (((Kpt.of_stp hs0).trans h3 fun x hx => .inl hx).mono fun x hx => hx.imp id (fun h => by omega)).trans (Kpt.put (O := fun b => b = D) W _ rfl) fun x hx => .inr (by omega)
  · intro D c k O W _ _ h
    exact h.elim
theorem collectB_c {C S : Nat → Prop} {gf : Nat} {lb : Array Value} {xs : List Int} {w : World} (eg : ∀ args w, (callFunc gf args).run Tryz.prog w = .ok (.enter gf args) w) (hit : IterB Tryz.prog gf lb (fun x : Int => #[.int .i64 x]) C S xs w)
    (hC : ∀ b, C b → b < w.heap.size) (hS : ∀ b, S b → b < w.heap.size) (hx : xs.length ≤ 1000000) :
    Calls Tryz.prog 107 #[.func (.func gf) #[] lb] w fun e w' => ∃ v, e = .returned v ∧ Own intK 3 (fun b => w.heap.size ≤ b) w' v xs ∧ Kpt C w w' := by
  have ca := appendSeqB_c eg hit hC hS hx
  go_enter Tryz.func107, Tryz.ntmps107
  go_wp2_with (go_at_call 115; refine ca.mono ?_; rintro e w1 ⟨v, rfl, h1, h2⟩)
  go_ret
  exact ⟨v, rfl, h1, h2⟩
end Go.Proofs.Lime
namespace Go.Proofs.Lime
open Go.RowKit
set_option linter.unusedVariables false
set_option linter.unusedSimpArgs false
attribute [local go_sem] Oper.semAt_some

theorem noPanic_n {Q : Exit → Act → World → Prop} {a : Act} {w : World} (h : Q .normal a w) : NoPanic Q .normal a w := h
section
variable {P : Program} {ops : Array Oper} {Q : Exit → Act → World → Prop} {l : Nat}
theorem wpOpIn_round (hd : ∀ (i : Nat) (o : Oper), ops[i]? = some o → ∀ c, o.op ≠ .defer c) (hout : ¬ LetsOut Q) {i : Nat} {K : Act → World → Prop} {a : Act} {w : World} (h : wpOp P ops Q i K a w) : wpOpIn (Fence.wide.inRound l) 0 P ops Q i K a w := by
  unfold wpOp at h
  unfold wpOpIn
  cases hi : ops[i]? with
  | none => simpa only [hi] using h
  | some o =>
    simp only [hi] at h ⊢
    by_cases hw : Region.wanted o (yielded ops a.tmps) = true
    · rw [if_pos hw] at h ⊢
      rcases h with h | h
      · refine ⟨fun _ _ => trivial, ?_⟩
        unfold Oper.wp at h
        rw [Oper.semAt_eq _ _ _ (hd i o hi)]
        generalize (execOp a.eval o).run P w = r at h ⊢
        cases r with
        | ok x w' =>
          cases x with
          | value v => exact h
          | skip => exact h
          | defer d => exact h
          | enter f args => exact ⟨fun h => by simp [Fence.wide] at h, callsIn_wide.2 h⟩
          | row row args => exact ⟨fun h => by simp [Fence.wide] at h, fun cc cs _ => by obtain ⟨v, w2, hR, hs⟩ := h cc cs; exact ⟨v, w2, hR, stepsIn_wide.2 hs⟩⟩
          | _ => exact (h : False).elim
        | halt x w' => cases x <;> exact h
      · exact absurd h.2 hout
    · rw [if_neg hw] at h ⊢
      exact ⟨fun _ _ => trivial, h⟩
theorem wpAnyIn_round (hd : ∀ (i : Nat) (o : Oper), ops[i]? = some o → ∀ c, o.op ≠ .defer c) (hout : ¬ LetsOut Q) {md : Region.Mode} : ∀ (fuel : Nat) (listed : Array Bool) (a : Act) (w : World), wpAny P md ops Q fuel listed a w → wpAnyIn (Fence.wide.inRound l) 0 P md ops Q fuel listed a w
  | 0, _, _, _, h => h
  | fuel + 1, _, _, _, h => ⟨h.1, fun i hi => wpOpIn_mono (fun a w h => wpAnyIn_round hd hout fuel _ a w h) (wpOpIn_round hd hout (h.2 i hi))⟩
def noDefer (ops : Array Oper) : Bool := ops.all fun o => match o.op with | .defer _ => false | _ => true
theorem noDefer_spec (h : noDefer ops = true) : ∀ (i : Nat) (o : Oper), ops[i]? = some o → ∀ c, o.op ≠ .defer c := by
  intro i o hi c hc
  obtain ⟨hlt, rfl⟩ := Array.getElem?_eq_some_iff.1 hi
  have := Array.all_eq_true.1 h i hlt
  rw [hc] at this
  cases this
/-- A region that draws, in a round, by a plan. -/
theorem wp_region_plan_in (p : Plan) {id : Nat} {a : Act} {w : World} (hm : P.follows .mixedOrders = true) (hs : Region.noSelect ops = true) (hp : p.ok ops false ops.size (Array.replicate ops.size false) = true) (hd : noDefer ops = true) (hout : ¬ LetsOut Q)
    (h : p.wp P ops Q a w.drew) : (Code.region id ops true).wpIn (Fence.wide.inRound l) 0 P Q a w :=
  wpIn_mono (wpIn_region_any hm (wpAnyIn_round (Q := NoPanic Q) (noDefer_spec hd) (fun ⟨a, w, h⟩ => hout ⟨a, w, h⟩) _ _ _ _ (wpAny_of_R _ _ _ _ ((Plan.sound hs p false _ _ a _ hp h).1 rfl)))) NoPanic.imp
end
end Go.Proofs.Lime
