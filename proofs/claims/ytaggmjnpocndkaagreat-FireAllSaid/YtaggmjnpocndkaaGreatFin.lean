/- Walk: who is called next. -/
import Derived.Test.YtaggmjnpocndkaaGreatFir
import Derived.Test.YtaggmjnpocndkaaGreatMS
import Derived.Test.YtaggmjnpocndkaaGreatWLast
namespace Go.Proofs.Lime
open Go.RowKit
set_option linter.unusedVariables false
set_option linter.unusedSimpArgs false
attribute [local go_sem] Oper.semAt_some

theorem pnil (w : World) (p : Option Addr) : (binOp .eql 52 (.pointer p) (.pointer none)).run Tryz.prog w = .ok (.bool p.isNone) w := run_eql_pointer_nil w _ p (by kernel_rfl)
attribute [local go_sem high] pnil
theorem vis_at6 {S : Nat → Prop} {w : World} {A : Option Addr} {n c : Nat} {y : Vis} {xs : List Vis} (h : Row visK S w (.slice A n c) (y :: xs)) :
    ∃ b o, A = some ⟨b, o, none⟩ ∧ w.cell? ⟨b, o, none⟩ = some (.int .i64 y.stop.node) ∧ w.cell? ⟨b, o + 1, none⟩ = some (.int .i64 y.stop.target) ∧ w.cell? ⟨b, o + 2, none⟩ = some (.int .i64 y.stop.related) ∧ w.cell? ⟨b, o + 3, none⟩ = some (.int .i64 y.phase) ∧ w.cell? ⟨b, o + 4, none⟩ = some (.bool y.cap) := by
  obtain ⟨b, o, c', cs, e, hS, hb, hK, hc⟩ := h.get 0 (by simp)
  injection e with e1 e2 e3
  have hK' : cs = Vis.cells y := hK
  subst hK'
  simp only [Nat.zero_mul, Nat.add_zero] at hc
  exact ⟨b, o, e1, hc 0 _ rfl, hc 1 _ rfl, hc 2 _ rfl, hc 3 _ rfl, hc 4 _ rfl⟩
theorem hear_at6 {S : Nat → Prop} {w : World} {A : Option Addr} {n c : Nat} {y : Hear} {xs : List Hear} (h : Row hearK S w (.slice A n c) (y :: xs)) :
    ∃ b o, A = some ⟨b, o, none⟩ ∧ w.cell? ⟨b, o, none⟩ = some (.int .i64 y.node) ∧ w.cell? ⟨b, o + 1, none⟩ = some (.int .i64 y.type) ∧ w.cell? ⟨b, o + 2, none⟩ = some (.bool y.cap) ∧ w.cell? ⟨b, o + 3, none⟩ = some (.bool y.once) ∧ w.cell? ⟨b, o + 4, none⟩ = some (.int .i64 y.prog) := by
  obtain ⟨b, o, c', cs, e, hS, hb, hK, hc⟩ := h.get 0 (by simp)
  injection e with e1 e2 e3
  have hK' : cs = Hear.cells y := hK
  subst hK'
  simp only [Nat.zero_mul, Nat.add_zero] at hc
  exact ⟨b, o, e1, hc 0 _ rfl, hc 1 _ rfl, hc 2 _ rfl, hc 3 _ rfl, hc 4 _ rfl⟩
/-- Where a run's lists lie behind a call: where they lay, or in blocks of the call's own. -/
abbrev runS (S : Nat → Prop) (w : World) : Nat → Prop := fun k => (S k ∧ k < w.heap.size) ∨ w.heap.size < k
set_option maxRecDepth 100000 in
set_option maxHeartbeats 4000000 in
theorem next_c {S T : Nat → Prop} {w : World} {B : Nat} {et tg re : Int} {bub can comp : Bool} {vs : List Vis} {v : Vis} {tk : List Hear} {sp cd : Bool} (hR : RunAt S B w et tg re bub can comp vs v tk sp cd) (hSB : ¬ S B) {u : Value} {l : List Hear} (hl : Row hearK T w u l) (hTB : ¬ T B) (hll : l.length ≤ 1000) :
    Calls Tryz.prog 11 #[.pointer (some ⟨B, 0, none⟩), u] w fun e w' => e = .returned (.tuple #[.agg ((nxt l et sp vs v tk).1.getD cal0).arr, .bool (nxt l et sp vs v tk).1.isSome]) ∧ RunAt (runS S w) B w' et tg re bub can comp (nxt l et sp vs v tk).2.1 (nxt l et sp vs v tk).2.2.1 (nxt l et sp vs v tk).2.2.2 sp cd ∧ Kpt (fun k => k = B) w w' := by
  have hBl : B < w.heap.size := by obtain ⟨_, _, h, _⟩ := hR.cells; exact (Array.getElem?_eq_some_iff.1 h).1
  obtain ⟨Al, cl, rfl, hlc, hlm⟩ := hl.form
  obtain ⟨N, hN⟩ : ∃ N, nxt l et sp vs v tk = N := ⟨_, rfl⟩
  rw [hN]
  have hlb := hl.bound
  go_enter Tryz.func11, Tryz.ntmps11
  go_wp2_with fail
  refine scope_front 0 (fun _ _ => False) (fun _ _ => 0) (by rfl) ?pass1 ?first1
  case pass1 => exact fun _ _ h => h.elim
  intro hp
  clear hp
  go_wp2_with fail
  obtain ⟨w1, hw1⟩ : ∃ w1, w.alloc (.cells #[.int .i64 0, .int .i64 0, .bool false, .bool false, .int .i64 0, .int .i64 0, .int .i64 0, .int .i64 0, .int .i64 0, .bool false] 41) = w1 := ⟨_, rfl⟩
  have hs1 : Stp w w1 := by rw [← hw1]; exact (Stp.refl w).alloc _
  have hD1 : w1.heap[w.heap.size]? = some (.cells cal0.arr 41 (0, 0)) := by rw [← hw1]; exact World.alloc_heap_new w _
  rw [hw1]
  clear hw1
  apply wp_label
  go_wp2_with fail
  go_loopg [6] vs.length (fun gg s6 W => ∃ (vs' : List Vis) (v' : Vis) (tk' : List Hear), vs'.length ≤ gg ∧ Aside (RunAt (runS S w) B W et tg re bub can comp vs' v' tk' sp cd ∧ nxt l et sp vs' v' tk' = N ∧ Kpt (fun k => k = B) w W ∧ W.heap[w.heap.size]? = some (.cells cal0.arr 41 (0, 0))))
  case atStart => exact ⟨vs, v, tk, Nat.le_refl _, (hR.bound.stp hs1).mono fun k h => .inl h, hN, Kpt.of_stp hs1, hD1⟩
  case round =>
    clear hD1 hs1
    obtain ⟨vs', v', tk', hg, HA⟩ := hrel
    go_wp2_with fail
    go_loopg [6] tk'.length (fun gg s6 W => ∃ tk2 : List Hear, tk2.length ≤ gg ∧ Aside (RunAt (runS S w) B W et tg re bub can comp vs' v' tk2 sp cd ∧ nxt l et sp vs' v' tk2 = N ∧ Kpt (fun k => k = B) w W ∧ W.heap[w.heap.size]? = some (.cells cal0.arr 41 (0, 0))))
    case atStart => exact ⟨tk', Nat.le_refl _, HA.out⟩
    case round =>
      clear HA
      obtain ⟨tk2, hg2, HA⟩ := hrel
      obtain ⟨hRn, hNn, hkn, hDn⟩ := HA.out
      obtain ⟨sv, st, hB, hv, ht⟩ := hRn.cells
      clear HA hRn
      obtain ⟨At, ct, rfl, htc, htm⟩ := ht.form
      obtain ⟨Av, cv, rfl, hvc, hvm⟩ := hv.form
      cases tk2 with
      | nil =>
        obtain ⟨p12, f12⟩ := inB hB 12 _ rfl
        obtain ⟨p13, _⟩ := inB hB 13 _ rfl
        obtain ⟨p6, f6⟩ := inB hB 6 _ rfl
        simp only [List.length_nil] at p12
        have R3 : RunAt (runS S w) B wr et tg re bub can comp vs' v' [] sp cd := ⟨_, _, hB, hv, ht⟩
        have hDl := (Array.getElem?_eq_some_iff.1 hDn).1
        have hnD : ∀ k, runS S w k → k < wr.heap.size → ¬ k = w.heap.size := fun k hk _ e => by
          rcases hk with h | h
          · exact absurd h.2 (by omega)
          · omega
        obtain ⟨d0, g0⟩ := inB hDn 0 _ rfl
        obtain ⟨d1, g1⟩ := inB hDn 1 _ rfl
        obtain ⟨d2, g2⟩ := inB hDn 2 _ rfl
        obtain ⟨d3, g3⟩ := inB hDn 3 _ rfl
        obtain ⟨d4, g4⟩ := inB hDn 4 _ rfl
        obtain ⟨d5, g5⟩ := inB hDn 5 _ rfl
        obtain ⟨d6, g6⟩ := inB hDn 6 _ rfl
        obtain ⟨d7, g7⟩ := inB hDn 7 _ rfl
        obtain ⟨d8, g8⟩ := inB hDn 8 _ rfl
        obtain ⟨d9, g9⟩ := inB hDn 9 _ rfl
        cases sp with
        | true =>
          rw [nxt_stop] at hNn
          subst hNn
          go_upto_region 11 with fail
          go_wp2_with fail
          try rw [exit_jump_ret]
          refine bodyPost_ret (results_cell_row_tmp rfl _ _ w.heap.size 41 cal0.arr (0, 0) _ (.bool false) rfl (put10 hDn) Tryz.underlying41 rfl (by kernel_rfl) rfl) rfl ⟨rfl, ?_, ?_⟩
          · exact R3.kpt kpt10 (by omega) hnD
          · exact hkn.trans kpt10 fun x hx => .inr (by omega)
        | false =>
          cases vs' with
          | nil =>
            rw [nxt_end] at hNn
            subst hNn
            go_upto_region 11 with fail
            go_wp2_with fail
            try rw [exit_jump_ret]
            refine bodyPost_ret (results_cell_row_tmp rfl _ _ w.heap.size 41 cal0.arr (0, 0) _ (.bool false) rfl (put10 hDn) Tryz.underlying41 rfl (by kernel_rfl) rfl) rfl ⟨rfl, ?_, ?_⟩
            · exact R3.kpt kpt10 (by omega) hnD
            · exact hkn.trans kpt10 fun x hx => .inr (by omega)
          | cons y ys =>
            rw [nxt_go] at hNn
            clear d0 d1 d2 d3 d4 d5 d6 d7 d8 d9 g0 g1 g2 g3 g4 g5 g6 g7 g8 g9 hnD
            obtain ⟨bv, ov, rfl, y0, y1, y2, y3, y4⟩ := vis_at6 hv
            have hv2 := hv.rest
            simp only [show visK.sz = 5 from rfl] at hv2
            simp only [List.length_cons] at p6 hvc hvm
            obtain ⟨b7, f7⟩ := inB hB 7 _ rfl
            obtain ⟨b8, f8⟩ := inB hB 8 _ rfl
            obtain ⟨b9, f9⟩ := inB hB 9 _ rfl
            obtain ⟨b10, f10⟩ := inB hB 10 _ rfl
            obtain ⟨b11, f11⟩ := inB hB 11 _ rfl
            have hgz : ((ys.length + 1 : Nat) : Int) ≠ 0 := by omega
            have hlp : 0 < ys.length + 1 := by omega
            go_upto_region 9 with fail
            refine wp_region_noPanic ?_
            refine Go.Proofs.YtaggmjnpocndkaaGreatW.PrintLast.start_ (n := 19) (S := fun W_ => Stp wr W_) (ds := [15, 18]) #[false, false, false, false, false, false, false, false, false, false, false, false, false, false, false, false, false, false, false] (by kernel_rfl) rfl (by kernel_rfl) (Stp.refl _).drew (fun hS => ?_)
            refine Go.Proofs.YtaggmjnpocndkaaGreatW.PrintLast.pure_ (i := 0) (v := ?_) (a' := ?_) #[true, false, false, false, false, false, false, false, false, false, false, false, false, false, false, false, false, false, false] Lime.getop_ rfl (by kernel_rfl) (fun _ _ _ h => h) (Or.inl ⟨by rfl, ?_⟩) ?_ ?_
            rotate_left
            focus (intro w_; (exact Lime.calm_))
            rotate_left
            focus (simp only [Act.put, List.setIfInBounds_toArray, List.set_cons_zero, List.set_cons_succ]; first | done | rfl)
            refine Go.Proofs.YtaggmjnpocndkaaGreatW.PrintLast.pure_ (i := 1) (v := ?_) (a' := ?_) #[true, true, false, false, false, false, false, false, false, false, false, false, false, false, false, false, false, false, false] Lime.getop_ rfl (by kernel_rfl) (fun _ _ _ h => h) (Or.inl ⟨by rfl, ?_⟩) ?_ ?_
            rotate_left
            focus (intro w_; (exact Lime.calm_))
            rotate_left
            focus (simp only [Act.put, List.setIfInBounds_toArray, List.set_cons_zero, List.set_cons_succ]; first | done | rfl)
            refine Go.Proofs.YtaggmjnpocndkaaGreatW.PrintLast.pure_ (i := 2) (v := ?_) (a' := ?_) #[true, true, true, false, false, false, false, false, false, false, false, false, false, false, false, false, false, false, false] Lime.getop_ rfl (by kernel_rfl) (fun _ _ _ h => h) (Or.inl ⟨by rfl, ?_⟩) ?_ ?_
            rotate_left
            focus (intro w_; (exact Lime.calm_))
            rotate_left
            focus (simp only [Act.put, List.setIfInBounds_toArray, List.set_cons_zero, List.set_cons_succ]; first | done | rfl)
            refine Go.Proofs.YtaggmjnpocndkaaGreatW.PrintLast.pure_ (i := 3) (v := ?_) (a' := ?_) #[true, true, true, true, false, false, false, false, false, false, false, false, false, false, false, false, false, false, false] Lime.getop_ rfl (by kernel_rfl) (fun _ _ _ h => h) (Or.inl ⟨by rfl, ?_⟩) ?_ ?_
            rotate_left
            focus (intro w_; (exact Lime.calm_))
            rotate_left
            focus (simp only [Act.put, List.setIfInBounds_toArray, List.set_cons_zero, List.set_cons_succ]; first | done | rfl)
            refine Go.Proofs.YtaggmjnpocndkaaGreatW.PrintLast.pure_ (i := 4) (v := ?_) (a' := ?_) #[true, true, true, true, true, false, false, false, false, false, false, false, false, false, false, false, false, false, false] Lime.getop_ rfl (by kernel_rfl) (fun _ _ _ h => h) (Or.inl ⟨by rfl, ?_⟩) ?_ ?_
            rotate_left
            focus (intro w_; (exact Lime.calm_))
            rotate_left
            focus (simp only [Act.put, List.setIfInBounds_toArray, List.set_cons_zero, List.set_cons_succ]; first | done | rfl)
            refine Go.Proofs.YtaggmjnpocndkaaGreatW.PrintLast.pure_ (i := 8) (v := ?_) (a' := ?_) #[true, true, true, true, true, false, false, false, true, false, false, false, false, false, false, false, false, false, false] Lime.getop_ rfl (by kernel_rfl) (fun _ _ _ h => h) (Or.inl ⟨by rfl, ?_⟩) ?_ ?_
            rotate_left
            focus (intro w_; (exact Lime.calm_))
            rotate_left
            focus (simp only [Act.put, List.setIfInBounds_toArray, List.set_cons_zero, List.set_cons_succ]; first | done | rfl)
            refine Go.Proofs.YtaggmjnpocndkaaGreatW.PrintLast.pure_ (i := 9) (v := ?_) (a' := ?_) #[true, true, true, true, true, false, false, false, true, true, false, false, false, false, false, false, false, false, false] Lime.getop_ rfl (by kernel_rfl) (fun _ _ _ h => h) (Or.inl ⟨by rfl, ?_⟩) ?_ ?_
            rotate_left
            focus (intro w_; (exact Lime.calm_))
            rotate_left
            focus (simp only [Act.put, List.setIfInBounds_toArray, List.set_cons_zero, List.set_cons_succ]; first | done | rfl)
            refine Go.Proofs.YtaggmjnpocndkaaGreatW.PrintLast.pure_ (i := 10) (v := ?_) (a' := ?_) #[true, true, true, true, true, false, false, false, true, true, true, false, false, false, false, false, false, false, false] Lime.getop_ rfl (by kernel_rfl) (fun _ _ _ h => h) (Or.inl ⟨by rfl, ?_⟩) ?_ ?_
            rotate_left
            focus (intro w_; (exact Lime.calm_))
            rotate_left
            focus (simp only [Act.put, List.setIfInBounds_toArray, List.set_cons_zero, List.set_cons_succ]; first | done | rfl)
            refine Go.Proofs.YtaggmjnpocndkaaGreatW.PrintLast.take_ (i := 5) (v := ?_) (a' := ?_) #[true, true, true, true, true, true, false, false, true, true, true, false, false, false, false, false, false, false, false] Lime.getop_ rfl (by kernel_rfl) (fun _ _ _ h => h) (Or.inl ⟨by rfl, ?_⟩) hS ?_ ?_
            rotate_left
            focus (intro w_ hw_; have q0_ := hw_.cell p6; have q1_ := hw_.cell y0; have q2_ := hw_.cell y1; have q3_ := hw_.cell y2; have q4_ := hw_.cell y3; have q5_ := hw_.cell y4; (exact Lime.calm_))
            rotate_left
            focus (simp only [Act.put, List.setIfInBounds_toArray, List.set_cons_zero, List.set_cons_succ]; first | done | rfl)
            refine Go.Proofs.YtaggmjnpocndkaaGreatW.PrintLast.pure_ (i := 6) (v := ?_) (a' := ?_) #[true, true, true, true, true, true, true, false, true, true, true, false, false, false, false, false, false, false, false] Lime.getop_ rfl (by kernel_rfl) (fun _ _ _ h => h) (Or.inl ⟨by rfl, ?_⟩) ?_ ?_
            rotate_left
            focus (intro w_; (exact Lime.calm_))
            rotate_left
            focus (simp only [Act.put, List.setIfInBounds_toArray, List.set_cons_zero, List.set_cons_succ]; first | done | rfl)
            refine Go.Proofs.YtaggmjnpocndkaaGreatW.PrintLast.take_ (i := 7) (v := ?_) (a' := ?_) #[true, true, true, true, true, true, true, true, true, true, true, false, false, false, false, false, false, false, false] Lime.getop_ rfl (by kernel_rfl) (fun _ _ _ h => h) (Or.inl ⟨by rfl, ?_⟩) hS ?_ ?_
            rotate_left
            focus (intro w_ hw_; have q0_ := hw_.cell p6; have q1_ := hw_.cell y0; have q2_ := hw_.cell y1; have q3_ := hw_.cell y2; have q4_ := hw_.cell y3; have q5_ := hw_.cell y4; (exact Lime.calm_))
            rotate_left
            focus (simp only [Act.put, List.setIfInBounds_toArray, List.set_cons_zero, List.set_cons_succ]; first | done | rfl)
            refine Go.Proofs.YtaggmjnpocndkaaGreatW.PrintLast.take_ (i := 11) (v := ?_) (a' := ?_) #[true, true, true, true, true, true, true, true, true, true, true, true, false, false, false, false, false, false, false] Lime.getop_ rfl (by kernel_rfl) (fun _ _ _ h => h) (Or.inl ⟨by rfl, ?_⟩) hS ?_ ?_
            rotate_left
            focus (intro w_ hw_; have q0_ := hw_.cell p6; have q1_ := hw_.cell y0; have q2_ := hw_.cell y1; have q3_ := hw_.cell y2; have q4_ := hw_.cell y3; have q5_ := hw_.cell y4; (exact Lime.calm_))
            rotate_left
            focus (simp only [Act.put, List.setIfInBounds_toArray, List.set_cons_zero, List.set_cons_succ]; first | done | rfl)
            refine Go.Proofs.YtaggmjnpocndkaaGreatW.PrintLast.pure_ (i := 12) (v := ?_) (a' := ?_) #[true, true, true, true, true, true, true, true, true, true, true, true, true, false, false, false, false, false, false] Lime.getop_ rfl (by kernel_rfl) (fun _ _ _ h => h) (Or.inl ⟨by rfl, ?_⟩) ?_ ?_
            rotate_left
            focus (intro w_; (exact Lime.calm_))
            rotate_left
            focus (simp only [Act.put, List.setIfInBounds_toArray, List.set_cons_zero, List.set_cons_succ]; first | done | rfl)
            refine Go.Proofs.YtaggmjnpocndkaaGreatW.PrintLast.pure_ (i := 13) (v := ?_) (a' := ?_) #[true, true, true, true, true, true, true, true, true, true, true, true, true, true, false, false, false, false, false] Lime.getop_ rfl (by kernel_rfl) (fun _ _ _ h => h) (Or.inl ⟨by rfl, ?_⟩) ?_ ?_
            rotate_left
            focus (intro w_; (exact Lime.calm_))
            rotate_left
            focus (simp only [Act.put, List.setIfInBounds_toArray, List.set_cons_zero, List.set_cons_succ]; first | done | rfl)
            refine Go.Proofs.YtaggmjnpocndkaaGreatW.PrintLast.pure_ (i := 14) (v := ?_) (a' := ?_) #[true, true, true, true, true, true, true, true, true, true, true, true, true, true, true, false, false, false, false] Lime.getop_ rfl (by kernel_rfl) (fun _ _ _ h => h) (Or.inl ⟨by rfl, ?_⟩) ?_ ?_
            rotate_left
            focus (intro w_; (exact Lime.calm_))
            rotate_left
            focus (simp only [Act.put, List.setIfInBounds_toArray, List.set_cons_zero, List.set_cons_succ]; first | done | rfl)
            refine Go.Proofs.YtaggmjnpocndkaaGreatW.PrintLast.last_ (i := 15) #[true, true, true, true, true, true, true, true, true, true, true, true, true, true, true, true, false, false, false] Lime.getop_ rfl (by kernel_rfl) (by decide) (fun K hK => ?_)
            rw [if_pos (by rfl)]; go_simp
            refine hK.out _ _ ?_
            clear hK K
            (try simp only [Act.put, List.setIfInBounds_toArray, List.set_cons_zero, List.set_cons_succ])
            refine Go.Proofs.YtaggmjnpocndkaaGreatW.PrintLast.pure_ (i := 16) (v := ?_) (a' := ?_) #[true, true, true, true, true, true, true, true, true, true, true, true, true, true, true, true, true, false, false] Lime.getop_ rfl (by kernel_rfl) (fun _ _ _ h => h) (Or.inl ⟨by rfl, ?_⟩) ?_ ?_
            rotate_left
            focus (intro w_; (exact Lime.calm_))
            rotate_left
            focus (simp only [Act.put, List.setIfInBounds_toArray, List.set_cons_zero, List.set_cons_succ]; first | done | rfl)
            refine Go.Proofs.YtaggmjnpocndkaaGreatW.PrintLast.pure_ (i := 17) (v := ?_) (a' := ?_) #[true, true, true, true, true, true, true, true, true, true, true, true, true, true, true, true, true, true, false] Lime.getop_ rfl (by kernel_rfl) (fun _ _ _ h => h) (Or.inl ⟨by rfl, ?_⟩) ?_ ?_
            rotate_left
            focus (intro w_; (exact Lime.calm_))
            rotate_left
            focus (simp only [Act.put, List.setIfInBounds_toArray, List.set_cons_zero, List.set_cons_succ]; first | done | rfl)
            refine Go.Proofs.YtaggmjnpocndkaaGreatW.PrintLast.last_ (i := 18) #[true, true, true, true, true, true, true, true, true, true, true, true, true, true, true, true, true, true, true] Lime.getop_ rfl (by kernel_rfl) (by decide) (fun K hK => ?_)
            rw [if_pos (by rfl)]; go_simp
            refine hK.out _ _ ?_
            clear hK K
            (try simp only [Act.put, List.setIfInBounds_toArray, List.set_cons_zero, List.set_cons_succ])
            refine Go.Proofs.YtaggmjnpocndkaaGreatW.PrintLast.done_ (by kernel_rfl) (noPanic_n ?_)
            generalize (if cv = 1 then some (⟨bv, ov, none⟩ : Addr) else some ⟨bv, ov + 5, none⟩) = A2 at hv2 ⊢
            obtain ⟨w2, hw2⟩ : ∃ w2, ((((((wr.setCell ⟨B, 7, none⟩ (.int .i64 y.stop.node)).setCell ⟨B, 8, none⟩ (.int .i64 y.stop.target)).setCell ⟨B, 9, none⟩ (.int .i64 y.stop.related)).setCell ⟨B, 10, none⟩ (.int .i64 y.phase)).setCell ⟨B, 11, none⟩ (.bool y.cap)).setCell ⟨B, 6, none⟩ (.slice A2 ys.length (cv - 1))).drew = w2 := ⟨_, rfl⟩
            have hB2 : w2.heap[B]? = some (.cells (runA et tg re bub can comp (.slice A2 ys.length (cv - 1)) y (.slice At 0 ct) false cd) 70 (0, 0)) := by rw [← hw2]; exact heap_drew (put6 hB)
            have hk2 : Kpt (fun k => k = B) wr w2 := by rw [← hw2]; exact kpt6.drew'
            rw [hw2]
            clear hw2 p12 f12 p13 p6 f6 y0 y1 y2 y3 y4 b7 b8 b9 b10 b11 f7 f8 f9 f10 f11
            have hD2 := (hk2.block _ hDl (by omega)).trans hDn
            have hkw2 : Kpt (fun k => k = B) w w2 := hkn.trans hk2 fun x hx => .inl hx
            have hl2 : Row hearK (fun k => T k ∧ k < w.heap.size) w2 (.slice Al l.length cl) l := hlb.kpt hkw2 fun x hx _ e => hTB (e ▸ hx.1)
            have hns : ¬ runS S w B := fun h => h.elim (fun h => hSB h.1) (by omega)
            have hv3 : Row visK (runS S w) w2 (.slice A2 ys.length (cv - 1)) ys := hv2.kpt hk2 fun x hx _ e => hns (e ▸ hx)
            obtain ⟨b7, _⟩ := inB hB2 7 _ rfl
            obtain ⟨b0, _⟩ := inB hB2 0 _ rfl
            obtain ⟨b11, _⟩ := inB hB2 11 _ rfl
            have hz2 := hk2.size
            clear hB hv ht hv2 R3 hkn hk2 hDn htc htm hvc hvm
            go_upto_region 10 with fail
            refine wp_region_noPanic ?_
            refine Go.Proofs.YtaggmjnpocndkaaGreatW.PrintLast.start_ (n := 22) (S := fun W_ => Stp w2 W_) (ds := [21]) #[false, false, false, false, false, false, false, false, false, false, false, false, false, false, false, false, false, false, false, false, false, false] (by kernel_rfl) rfl (by kernel_rfl) (Stp.refl _).drew (fun hS => ?_)
            refine Go.Proofs.YtaggmjnpocndkaaGreatW.PrintLast.pure_ (i := 0) (v := ?_) (a' := ?_) #[true, false, false, false, false, false, false, false, false, false, false, false, false, false, false, false, false, false, false, false, false, false] Lime.getop_ rfl (by kernel_rfl) (fun _ _ _ h => h) (Or.inl ⟨by rfl, ?_⟩) ?_ ?_
            rotate_left
            focus (intro w_; (exact Lime.calm_))
            rotate_left
            focus (simp only [Act.put, List.setIfInBounds_toArray, List.set_cons_zero, List.set_cons_succ]; first | done | rfl)
            refine Go.Proofs.YtaggmjnpocndkaaGreatW.PrintLast.pure_ (i := 1) (v := ?_) (a' := ?_) #[true, true, false, false, false, false, false, false, false, false, false, false, false, false, false, false, false, false, false, false, false, false] Lime.getop_ rfl (by kernel_rfl) (fun _ _ _ h => h) (Or.inl ⟨by rfl, ?_⟩) ?_ ?_
            rotate_left
            focus (intro w_; (exact Lime.calm_))
            rotate_left
            focus (simp only [Act.put, List.setIfInBounds_toArray, List.set_cons_zero, List.set_cons_succ]; first | done | rfl)
            refine Go.Proofs.YtaggmjnpocndkaaGreatW.PrintLast.pure_ (i := 2) (v := ?_) (a' := ?_) #[true, true, true, false, false, false, false, false, false, false, false, false, false, false, false, false, false, false, false, false, false, false] Lime.getop_ rfl (by kernel_rfl) (fun _ _ _ h => h) (Or.inl ⟨by rfl, ?_⟩) ?_ ?_
            rotate_left
            focus (intro w_; (exact Lime.calm_))
            rotate_left
            focus (simp only [Act.put, List.setIfInBounds_toArray, List.set_cons_zero, List.set_cons_succ]; first | done | rfl)
            refine Go.Proofs.YtaggmjnpocndkaaGreatW.PrintLast.pure_ (i := 3) (v := ?_) (a' := ?_) #[true, true, true, true, false, false, false, false, false, false, false, false, false, false, false, false, false, false, false, false, false, false] Lime.getop_ rfl (by kernel_rfl) (fun _ _ _ h => h) (Or.inl ⟨by rfl, ?_⟩) ?_ ?_
            rotate_left
            focus (intro w_; (exact Lime.calm_))
            rotate_left
            focus (simp only [Act.put, List.setIfInBounds_toArray, List.set_cons_zero, List.set_cons_succ]; first | done | rfl)
            refine Go.Proofs.YtaggmjnpocndkaaGreatW.PrintLast.pure_ (i := 4) (v := ?_) (a' := ?_) #[true, true, true, true, true, false, false, false, false, false, false, false, false, false, false, false, false, false, false, false, false, false] Lime.getop_ rfl (by kernel_rfl) (fun _ _ _ h => h) (Or.inl ⟨by rfl, ?_⟩) ?_ ?_
            rotate_left
            focus (intro w_; (exact Lime.calm_))
            rotate_left
            focus (simp only [Act.put, List.setIfInBounds_toArray, List.set_cons_zero, List.set_cons_succ]; first | done | rfl)
            refine Go.Proofs.YtaggmjnpocndkaaGreatW.PrintLast.pure_ (i := 5) (v := ?_) (a' := ?_) #[true, true, true, true, true, true, false, false, false, false, false, false, false, false, false, false, false, false, false, false, false, false] Lime.getop_ rfl (by kernel_rfl) (fun _ _ _ h => h) (Or.inl ⟨by rfl, ?_⟩) ?_ ?_
            rotate_left
            focus (intro w_; (exact Lime.calm_))
            rotate_left
            focus (simp only [Act.put, List.setIfInBounds_toArray, List.set_cons_zero, List.set_cons_succ]; first | done | rfl)
            refine Go.Proofs.YtaggmjnpocndkaaGreatW.PrintLast.pure_ (i := 6) (v := ?_) (a' := ?_) #[true, true, true, true, true, true, true, false, false, false, false, false, false, false, false, false, false, false, false, false, false, false] Lime.getop_ rfl (by kernel_rfl) (fun _ _ _ h => h) (Or.inl ⟨by rfl, ?_⟩) ?_ ?_
            rotate_left
            focus (intro w_; (exact Lime.calm_))
            rotate_left
            focus (simp only [Act.put, List.setIfInBounds_toArray, List.set_cons_zero, List.set_cons_succ]; first | done | rfl)
            refine Go.Proofs.YtaggmjnpocndkaaGreatW.PrintLast.pure_ (i := 8) (v := ?_) (a' := ?_) #[true, true, true, true, true, true, true, false, true, false, false, false, false, false, false, false, false, false, false, false, false, false] Lime.getop_ rfl (by kernel_rfl) (fun _ _ _ h => h) (Or.inl ⟨by rfl, ?_⟩) ?_ ?_
            rotate_left
            focus (intro w_; (exact Lime.calm_))
            rotate_left
            focus (simp only [Act.put, List.setIfInBounds_toArray, List.set_cons_zero, List.set_cons_succ]; first | done | rfl)
            refine Go.Proofs.YtaggmjnpocndkaaGreatW.PrintLast.pure_ (i := 9) (v := ?_) (a' := ?_) #[true, true, true, true, true, true, true, false, true, true, false, false, false, false, false, false, false, false, false, false, false, false] Lime.getop_ rfl (by kernel_rfl) (fun _ _ _ h => h) (Or.inl ⟨by rfl, ?_⟩) ?_ ?_
            rotate_left
            focus (intro w_; (exact Lime.calm_))
            rotate_left
            focus (simp only [Act.put, List.setIfInBounds_toArray, List.set_cons_zero, List.set_cons_succ]; first | done | rfl)
            refine Go.Proofs.YtaggmjnpocndkaaGreatW.PrintLast.pure_ (i := 10) (v := ?_) (a' := ?_) #[true, true, true, true, true, true, true, false, true, true, true, false, false, false, false, false, false, false, false, false, false, false] Lime.getop_ rfl (by kernel_rfl) (fun _ _ _ h => h) (Or.inl ⟨by rfl, ?_⟩) ?_ ?_
            rotate_left
            focus (intro w_; (exact Lime.calm_))
            rotate_left
            focus (simp only [Act.put, List.setIfInBounds_toArray, List.set_cons_zero, List.set_cons_succ]; first | done | rfl)
            refine Go.Proofs.YtaggmjnpocndkaaGreatW.PrintLast.pure_ (i := 11) (v := ?_) (a' := ?_) #[true, true, true, true, true, true, true, false, true, true, true, true, false, false, false, false, false, false, false, false, false, false] Lime.getop_ rfl (by kernel_rfl) (fun _ _ _ h => h) (Or.inl ⟨by rfl, ?_⟩) ?_ ?_
            rotate_left
            focus (intro w_; (exact Lime.calm_))
            rotate_left
            focus (simp only [Act.put, List.setIfInBounds_toArray, List.set_cons_zero, List.set_cons_succ]; first | done | rfl)
            refine Go.Proofs.YtaggmjnpocndkaaGreatW.PrintLast.pure_ (i := 13) (v := ?_) (a' := ?_) #[true, true, true, true, true, true, true, false, true, true, true, true, false, true, false, false, false, false, false, false, false, false] Lime.getop_ rfl (by kernel_rfl) (fun _ _ _ h => h) (Or.inl ⟨by rfl, ?_⟩) ?_ ?_
            rotate_left
            focus (intro w_; (exact Lime.calm_))
            rotate_left
            focus (simp only [Act.put, List.setIfInBounds_toArray, List.set_cons_zero, List.set_cons_succ]; first | done | rfl)
            refine Go.Proofs.YtaggmjnpocndkaaGreatW.PrintLast.pure_ (i := 14) (v := ?_) (a' := ?_) #[true, true, true, true, true, true, true, false, true, true, true, true, false, true, true, false, false, false, false, false, false, false] Lime.getop_ rfl (by kernel_rfl) (fun _ _ _ h => h) (Or.inl ⟨by rfl, ?_⟩) ?_ ?_
            rotate_left
            focus (intro w_; (exact Lime.calm_))
            rotate_left
            focus (simp only [Act.put, List.setIfInBounds_toArray, List.set_cons_zero, List.set_cons_succ]; first | done | rfl)
            refine Go.Proofs.YtaggmjnpocndkaaGreatW.PrintLast.pure_ (i := 15) (v := ?_) (a' := ?_) #[true, true, true, true, true, true, true, false, true, true, true, true, false, true, true, true, false, false, false, false, false, false] Lime.getop_ rfl (by kernel_rfl) (fun _ _ _ h => h) (Or.inl ⟨by rfl, ?_⟩) ?_ ?_
            rotate_left
            focus (intro w_; (exact Lime.calm_))
            rotate_left
            focus (simp only [Act.put, List.setIfInBounds_toArray, List.set_cons_zero, List.set_cons_succ]; first | done | rfl)
            refine Go.Proofs.YtaggmjnpocndkaaGreatW.PrintLast.pure_ (i := 16) (v := ?_) (a' := ?_) #[true, true, true, true, true, true, true, false, true, true, true, true, false, true, true, true, true, false, false, false, false, false] Lime.getop_ rfl (by kernel_rfl) (fun _ _ _ h => h) (Or.inl ⟨by rfl, ?_⟩) ?_ ?_
            rotate_left
            focus (intro w_; (exact Lime.calm_))
            rotate_left
            focus (simp only [Act.put, List.setIfInBounds_toArray, List.set_cons_zero, List.set_cons_succ]; first | done | rfl)
            refine Go.Proofs.YtaggmjnpocndkaaGreatW.PrintLast.take_ (i := 7) (v := ?_) (a' := ?_) #[true, true, true, true, true, true, true, true, true, true, true, true, false, true, true, true, true, false, false, false, false, false] Lime.getop_ rfl (by kernel_rfl) (fun _ _ _ h => h) (Or.inl ⟨by rfl, ?_⟩) hS ?_ ?_
            rotate_left
            focus (intro w_ hw_; have q0_ := hw_.cell b7; have q1_ := hw_.cell b0; have q2_ := hw_.cell b11; (exact Lime.calm_))
            rotate_left
            focus (simp only [Act.put, List.setIfInBounds_toArray, List.set_cons_zero, List.set_cons_succ]; first | done | rfl)
            refine Go.Proofs.YtaggmjnpocndkaaGreatW.PrintLast.take_ (i := 12) (v := ?_) (a' := ?_) #[true, true, true, true, true, true, true, true, true, true, true, true, true, true, true, true, true, false, false, false, false, false] Lime.getop_ rfl (by kernel_rfl) (fun _ _ _ h => h) (Or.inl ⟨by rfl, ?_⟩) hS ?_ ?_
            rotate_left
            focus (intro w_ hw_; have q0_ := hw_.cell b7; have q1_ := hw_.cell b0; have q2_ := hw_.cell b11; (exact Lime.calm_))
            rotate_left
            focus (simp only [Act.put, List.setIfInBounds_toArray, List.set_cons_zero, List.set_cons_succ]; first | done | rfl)
            refine Go.Proofs.YtaggmjnpocndkaaGreatW.PrintLast.take_ (i := 17) (v := ?_) (a' := ?_) #[true, true, true, true, true, true, true, true, true, true, true, true, true, true, true, true, true, true, false, false, false, false] Lime.getop_ rfl (by kernel_rfl) (fun _ _ _ h => h) (Or.inl ⟨by rfl, ?_⟩) hS ?_ ?_
            rotate_left
            focus (intro w_ hw_; have q0_ := hw_.cell b7; have q1_ := hw_.cell b0; have q2_ := hw_.cell b11; (exact Lime.calm_))
            rotate_left
            focus (simp only [Act.put, List.setIfInBounds_toArray, List.set_cons_zero, List.set_cons_succ]; first | done | rfl)
            refine Go.Proofs.YtaggmjnpocndkaaGreatW.PrintLast.one_ (i := 18) #[true, true, true, true, true, true, true, true, true, true, true, true, true, true, true, true, true, true, true, false, false, false] Lime.getop_ rfl (by kernel_rfl) (by decide) (fun K hK => ?_)
            rw [if_pos (by rfl)]; go_simp; refine (show Calls Tryz.prog 21 _ _ _ from H.for_c (hl2.stp Lime.stp_) (by omega) _ _ _).mono ?_; rintro e w5 ⟨u5, rfl, o5, hb5⟩; obtain ⟨A5, c5, rfl, _, _⟩ := o5.reads.form
            refine hK.out _ _ Lime.stp_ (fun hst => ?_); replace hS := hst
            clear hK K
            (try simp only [Act.put, List.setIfInBounds_toArray, List.set_cons_zero, List.set_cons_succ])
            refine Go.Proofs.YtaggmjnpocndkaaGreatW.PrintLast.pure_ (i := 19) (v := ?_) (a' := ?_) #[true, true, true, true, true, true, true, true, true, true, true, true, true, true, true, true, true, true, true, true, false, false] Lime.getop_ rfl (by kernel_rfl) (fun _ _ _ h => h) (Or.inl ⟨by rfl, ?_⟩) ?_ ?_
            rotate_left
            focus (intro w_; (exact Lime.calm_))
            rotate_left
            focus (simp only [Act.put, List.setIfInBounds_toArray, List.set_cons_zero, List.set_cons_succ]; first | done | rfl)
            refine Go.Proofs.YtaggmjnpocndkaaGreatW.PrintLast.pure_ (i := 20) (v := ?_) (a' := ?_) #[true, true, true, true, true, true, true, true, true, true, true, true, true, true, true, true, true, true, true, true, true, false] Lime.getop_ rfl (by kernel_rfl) (fun _ _ _ h => h) (Or.inl ⟨by rfl, ?_⟩) ?_ ?_
            rotate_left
            focus (intro w_; (exact Lime.calm_))
            rotate_left
            focus (simp only [Act.put, List.setIfInBounds_toArray, List.set_cons_zero, List.set_cons_succ]; first | done | rfl)
            refine Go.Proofs.YtaggmjnpocndkaaGreatW.PrintLast.last_ (i := 21) #[true, true, true, true, true, true, true, true, true, true, true, true, true, true, true, true, true, true, true, true, true, true] Lime.getop_ rfl (by kernel_rfl) (by decide) (fun K hK => ?_)
            rw [if_pos (by rfl)]; obtain ⟨c12, g12⟩ := inB (hS.heap hB2) 12 _ rfl; go_simp
            refine hK.out _ _ ?_
            clear hK K
            (try simp only [Act.put, List.setIfInBounds_toArray, List.set_cons_zero, List.set_cons_succ])
            refine Go.Proofs.YtaggmjnpocndkaaGreatW.PrintLast.done_ (by kernel_rfl) (noPanic_n ?_)
            obtain ⟨w6, hw6⟩ : ∃ w6, w5.setCell ⟨B, 12, none⟩ (.slice A5 (hearFor l y.stop.node et y.cap).length c5) = w6 := ⟨_, rfl⟩
            have hB6 : w6.heap[B]? = some (.cells (runA et tg re bub can comp (.slice A2 ys.length (cv - 1)) y (.slice A5 (hearFor l y.stop.node et y.cap).length c5) false cd) 70 (0, 0)) := by rw [← hw6]; exact setB (hS.heap hB2) 12 _
            have hk56 : Kpt (fun k => k = B) w5 w6 := by rw [← hw6]; exact kpt_store (Kpt.refl _ _) rfl
            have hk6 : Kpt (fun k => k = B) w2 w6 := (Kpt.of_stp (O := fun k => k = B) hS).trans hk56 fun x hx => .inl hx
            rw [hw6]
            have hz5 := hS.size
            have hBl2 := (Array.getElem?_eq_some_iff.1 hB2).1
            have R6 : RunAt (runS S w) B w6 et tg re bub can comp ys y (hearFor l y.stop.node et y.cap) false cd :=
              ⟨_, _, hB6, hv3.kpt hk6 fun x hx _ e => hns (e ▸ hx), (o5.reads.kpt hk56 fun x hx _ e => by have h1 : w2.heap.size ≤ x := hx; omega).mono fun x hx => .inr (by have h1 : w2.heap.size ≤ x := hx; omega)⟩
            have hk7 := hkw2.trans hk6 fun x hx => .inl hx
            have hD6 := (hk6.block _ (Array.getElem?_eq_some_iff.1 hD2).1 (by omega)).trans hD2
            clear hw6 hB6 hk56 hk6 hS hB2 hD2 hv3 hl2 hkw2 o5 c12 g12 b7 b0 b11
            go_wp2_with fail
            go_roundg ys.length
            case measure => simp only [List.length_cons] at hg; omega
            case rel => exact ⟨ys, y, hearFor l y.stop.node et y.cap, Nat.le_refl _, R6, hNn, hk7, hD6⟩
      | cons h tl =>
        obtain ⟨b, o, rfl, x0, x1, x2, x3, x4⟩ := hear_at6 ht
        have ht2 := ht.rest
        simp only [show hearK.sz = 5 from rfl] at ht2
        obtain ⟨p12, f12⟩ := inB hB 12 _ rfl
        simp only [List.length_cons] at p12 htc htm
        have hgz : (0 : Int) < ((tl.length + 1 : Nat) : Int) := by omega
        go_upto_region 5 with fail
        obtain ⟨w2, hw2, hs2, hz2, gc⟩ := box_named wr #[.int .i64 h.node, .int .i64 h.type, .bool h.cap, .bool h.once, .int .i64 h.prog] 35
        rw [hw2]
        have hH2 : w2.heap[wr.heap.size]? = some (.cells #[.int .i64 h.node, .int .i64 h.type, .bool h.cap, .bool h.once, .int .i64 h.prog] 35 (0, 0)) := by rw [← hw2]; exact World.alloc_heap_new wr _
        have hB2 := hs2.heap hB
        have hD2 := hs2.heap hDn
        clear hw2 gc p12 f12 x0 x1 x2 x3 x4
        obtain ⟨p12, f12⟩ := inB hB2 12 _ rfl
        simp only [List.length_cons] at p12
        go_upto_region 6 with fail
        generalize (if ct = 1 then some (⟨b, o, none⟩ : Addr) else some ⟨b, o + 5, none⟩) = A2 at ht2 ⊢
        obtain ⟨w3, hw3⟩ : ∃ w3, w2.setCell ⟨B, 12, none⟩ (.slice A2 tl.length (ct - 1)) = w3 := ⟨_, rfl⟩
        have hk3 : Kpt (fun k => k = B) w2 w3 := by rw [← hw3]; exact kpt_store (Kpt.refl _ _) rfl
        have hB3 : w3.heap[B]? = some (.cells (runA et tg re bub can comp (.slice Av vs'.length cv) v' (.slice A2 tl.length (ct - 1)) sp cd) 70 (0, 0)) := by rw [← hw3]; exact setB hB2 12 _
        rw [hw3]
        clear hw3 p12 f12 hB2
        have hBw := (Array.getElem?_eq_some_iff.1 hB).1
        have hH3 := (hk3.block _ (Array.getElem?_eq_some_iff.1 hH2).1 (by omega)).trans hH2
        have hD3 := (hk3.block _ (Array.getElem?_eq_some_iff.1 hD2).1 (by omega)).trans hD2
        have hkw3 : Kpt (fun k => k = B) w w3 := (hkn.trans (Kpt.of_stp (O := fun k => k = B) hs2) fun x hx => .inl hx).trans hk3 fun x hx => .inl hx
        have hl3 : Row hearK (fun k => T k ∧ k < w.heap.size) w3 (.slice Al l.length cl) l := hlb.kpt hkw3 fun x hx _ e => hTB (e ▸ hx.1)
        have hns : ¬ runS S w B := fun h => h.elim (fun h => hSB h.1) (by omega)
        have hv3 : Row visK (runS S w) w3 (.slice Av vs'.length cv) vs' := (hv.stp hs2).kpt hk3 fun x hx _ e => hns (e ▸ hx)
        have ht3 : Row hearK (runS S w) w3 (.slice A2 tl.length (ct - 1)) tl := (ht2.stp hs2).kpt hk3 fun x hx _ e => hns (e ▸ hx)
        have R3 : RunAt (runS S w) B w3 et tg re bub can comp vs' v' tl sp cd := ⟨_, _, hB3, hv3, ht3⟩
        clear hB hv ht ht2 hs2 hH2 hD2 hk3 hkn hDn htc htm
        obtain ⟨q0, _⟩ := inB hH3 0 _ rfl
        obtain ⟨q1, _⟩ := inB hH3 1 _ rfl
        obtain ⟨q2, _⟩ := inB hH3 2 _ rfl
        obtain ⟨q3, _⟩ := inB hH3 3 _ rfl
        obtain ⟨q4, _⟩ := inB hH3 4 _ rfl
        have ct3 := there_c hl3 h
        cases ha : l.any (·.one h) with
        | false =>
          rw [ha] at ct3
          go_wp2_with (go_at_call 20; refine ct3.mono ?_; rintro e w4 ⟨rfl, hb4⟩)
          go_roundg tl.length
          case measure => simp only [List.length_cons] at hg2; omega
          case rel => exact ⟨tl, Nat.le_refl _, R3.stp hb4, (nxt_miss ha).symm.trans hNn, hkw3.trans (Kpt.of_stp (O := fun k => k = B) hb4) fun x hx => .inl hx, hb4.heap hD3⟩
        | true =>
          rw [ha] at ct3
          rw [nxt_hit ha] at hNn
          subst hNn
          go_upto_region 7 with (go_at_call 20; refine ct3.mono ?_; rintro e w4 ⟨rfl, hb4⟩)
          replace q0 := hb4.cell q0
          replace q1 := hb4.cell q1
          replace q2 := hb4.cell q2
          replace q3 := hb4.cell q3
          replace q4 := hb4.cell q4
          have hB4 := hb4.heap hB3
          have hD4 := hb4.heap hD3
          have R4 := R3.stp hb4
          have hk4 := hkw3.trans (Kpt.of_stp (O := fun k => k = B) hb4) fun x hx => .inl hx
          obtain ⟨b7, _⟩ := inB hB4 7 _ rfl
          obtain ⟨b8, _⟩ := inB hB4 8 _ rfl
          obtain ⟨b9, _⟩ := inB hB4 9 _ rfl
          obtain ⟨b10, _⟩ := inB hB4 10 _ rfl
          obtain ⟨b11, _⟩ := inB hB4 11 _ rfl
          clear hB3 hD3 R3 hkw3 hb4 ct3 hl3 hv3 ht3 hH3
          obtain ⟨d0, g0⟩ := inB hD4 0 _ rfl
          obtain ⟨d1, g1⟩ := inB hD4 1 _ rfl
          obtain ⟨d2, g2⟩ := inB hD4 2 _ rfl
          obtain ⟨d3, g3⟩ := inB hD4 3 _ rfl
          obtain ⟨d4, g4⟩ := inB hD4 4 _ rfl
          obtain ⟨d5, g5⟩ := inB hD4 5 _ rfl
          obtain ⟨d6, g6⟩ := inB hD4 6 _ rfl
          obtain ⟨d7, g7⟩ := inB hD4 7 _ rfl
          obtain ⟨d8, g8⟩ := inB hD4 8 _ rfl
          obtain ⟨d9, g9⟩ := inB hD4 9 _ rfl
          refine wp_region_noPanic ?_
          refine Go.Proofs.YtaggmjnpocndkaaGreatW.PrintLast.start_ (n := 8) (S := fun W_ => Stp w4 W_) (ds := [6]) #[false, false, false, false, false, false, false, false] (by kernel_rfl) rfl (by kernel_rfl) (Stp.refl _).drew (fun hS => ?_)
          refine Go.Proofs.YtaggmjnpocndkaaGreatW.PrintLast.pure_ (i := 1) (v := ?_) (a' := ?_) #[false, true, false, false, false, false, false, false] Lime.getop_ rfl (by kernel_rfl) (fun _ _ _ h => h) (Or.inl ⟨by rfl, ?_⟩) ?_ ?_
          rotate_left
          focus (intro w_; (exact Lime.calm_))
          rotate_left
          focus (simp only [Act.put, List.setIfInBounds_toArray, List.set_cons_zero, List.set_cons_succ]; first | done | rfl)
          refine Go.Proofs.YtaggmjnpocndkaaGreatW.PrintLast.pure_ (i := 2) (v := ?_) (a' := ?_) #[false, true, true, false, false, false, false, false] Lime.getop_ rfl (by kernel_rfl) (fun _ _ _ h => h) (Or.inl ⟨by rfl, ?_⟩) ?_ ?_
          rotate_left
          focus (intro w_; (exact Lime.calm_))
          rotate_left
          focus (simp only [Act.put, List.setIfInBounds_toArray, List.set_cons_zero, List.set_cons_succ]; first | done | rfl)
          refine Go.Proofs.YtaggmjnpocndkaaGreatW.PrintLast.pure_ (i := 3) (v := ?_) (a' := ?_) #[false, true, true, true, false, false, false, false] Lime.getop_ rfl (by kernel_rfl) (fun _ _ _ h => h) (Or.inl ⟨by rfl, ?_⟩) ?_ ?_
          rotate_left
          focus (intro w_; (exact Lime.calm_))
          rotate_left
          focus (simp only [Act.put, List.setIfInBounds_toArray, List.set_cons_zero, List.set_cons_succ]; first | done | rfl)
          refine Go.Proofs.YtaggmjnpocndkaaGreatW.PrintLast.take_ (i := 0) (v := ?_) (a' := ?_) #[true, true, true, true, false, false, false, false] Lime.getop_ rfl (by kernel_rfl) (fun _ _ _ h => h) (Or.inl ⟨by rfl, ?_⟩) hS ?_ ?_
          rotate_left
          focus (intro w_ hw_; have q0_ := hw_.cell q0; have q1_ := hw_.cell q1; have q2_ := hw_.cell q2; have q3_ := hw_.cell q3; have q4_ := hw_.cell q4; have q5_ := hw_.cell b7; have q6_ := hw_.cell b8; have q7_ := hw_.cell b9; have q8_ := hw_.cell b10; have q9_ := hw_.cell b11; (exact Lime.calm_))
          rotate_left
          focus (simp only [Act.put, List.setIfInBounds_toArray, List.set_cons_zero, List.set_cons_succ]; first | done | rfl)
          refine Go.Proofs.YtaggmjnpocndkaaGreatW.PrintLast.take_ (i := 4) (v := ?_) (a' := ?_) #[true, true, true, true, true, false, false, false] Lime.getop_ rfl (by kernel_rfl) (fun _ _ _ h => h) (Or.inl ⟨by rfl, ?_⟩) hS ?_ ?_
          rotate_left
          focus (intro w_ hw_; have q0_ := hw_.cell q0; have q1_ := hw_.cell q1; have q2_ := hw_.cell q2; have q3_ := hw_.cell q3; have q4_ := hw_.cell q4; have q5_ := hw_.cell b7; have q6_ := hw_.cell b8; have q7_ := hw_.cell b9; have q8_ := hw_.cell b10; have q9_ := hw_.cell b11; (exact Lime.calm_))
          rotate_left
          focus (simp only [Act.put, List.setIfInBounds_toArray, List.set_cons_zero, List.set_cons_succ]; first | done | rfl)
          refine Go.Proofs.YtaggmjnpocndkaaGreatW.PrintLast.pure_ (i := 5) (v := ?_) (a' := ?_) #[true, true, true, true, true, true, false, false] Lime.getop_ rfl (by kernel_rfl) (fun _ _ _ h => h) (Or.inl ⟨by rfl, ?_⟩) ?_ ?_
          rotate_left
          focus (intro w_; (exact Lime.calm_))
          rotate_left
          focus (simp only [Act.put, List.setIfInBounds_toArray, List.set_cons_zero, List.set_cons_succ]; first | done | rfl)
          refine Go.Proofs.YtaggmjnpocndkaaGreatW.PrintLast.last_ (i := 6) #[true, true, true, true, true, true, true, false] Lime.getop_ rfl (by kernel_rfl) (by decide) (fun K hK => ?_)
          rw [if_pos (by rfl)]; go_simp
          refine hK.out _ _ ?_
          clear hK K
          (try simp only [Act.put, List.setIfInBounds_toArray, List.set_cons_zero, List.set_cons_succ])
          refine Go.Proofs.YtaggmjnpocndkaaGreatW.PrintLast.pure_ (i := 7) (v := ?_) (a' := ?_) #[true, true, true, true, true, true, true, true] Lime.getop_ rfl (by kernel_rfl) (fun _ _ _ h => h) (Or.inl ⟨by rfl, ?_⟩) ?_ ?_
          rotate_left
          focus (intro w_; (exact Lime.calm_))
          rotate_left
          focus (simp only [Act.put, List.setIfInBounds_toArray, List.set_cons_zero, List.set_cons_succ]; first | done | rfl)
          refine Go.Proofs.YtaggmjnpocndkaaGreatW.PrintLast.done_ (by kernel_rfl) (noPanic_n ?_)
          go_wp2_with fail
          try rw [exit_jump_ret]
          have hnD : ∀ k, runS S w k → k < w4.heap.size → ¬ k = w.heap.size := fun k hk _ e => by
            rcases hk with h | h
            · exact absurd h.2 (by omega)
            · omega
          refine bodyPost_ret (results_cell_row_tmp rfl _ _ w.heap.size 41 (Cal.mk h v').arr (0, 0) _ (.bool true) rfl (heap_drew (put10 hD4)) Tryz.underlying41 rfl (by kernel_rfl) rfl) rfl ⟨rfl, ?_, ?_⟩
          · exact (R4.kpt kpt10 (by omega) hnD).stp (Stp.refl _).drew
          · exact ((hk4.trans kpt10 fun x hx => .inr (by omega)).trans (Kpt.of_stp (O := fun k => k = B) (Stp.refl _).drew) fun x hx => .inl hx)
end Go.Proofs.Lime
