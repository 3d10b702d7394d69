/- Walk: all calls of an event, one by one. -/
import Derived.Test.YtaggmjnpocndkaaGreatFnw
import Derived.Test.YtaggmjnpocndkaaGreatDrs
import Derived.Test.YtaggmjnpocndkaaGreatMW
namespace Go.Proofs.Lime
open Go.RowKit
set_option linter.unusedVariables false
set_option linter.unusedSimpArgs false
attribute [local go_sem] Oper.semAt_some
theorem infoCal : (Tryz.prog.info? 41).map (fun i => (i.zero, i.size, i.bytes)) = some (some (.agg #[.int .i64 0, .int .i64 0, .bool false, .bool false, .int .i64 0, .int .i64 0, .int .i64 0, .int .i64 0, .int .i64 0, .bool false]), 10, 72) := by kernel_rfl
theorem box10 (w : World) (a0 a1 a2 a3 a4 a5 a6 a7 a8 a9 : Value) : ∃ w1, w.alloc (.cells #[a0, a1, a2, a3, a4, a5, a6, a7, a8, a9] 41) = w1 ∧ Stp w w1 ∧ w1.heap.size = w.heap.size + 1 ∧ w1.heap[w.heap.size]? = some (.cells #[a0, a1, a2, a3, a4, a5, a6, a7, a8, a9] 41 (0, 0)) :=
  ⟨_, rfl, (Stp.refl w).alloc _, by simp, World.alloc_heap_new w _⟩
/-- A call, and all behind it. -/
def callsT (et : Int) (f : Nat) (l : List Hear) (vs : List Vis) (v : Vis) (tk : List Hear) : Option Cal → List Cal
  | none => []
  | some c => c :: allIn et f (if c.hear.once = true then hearDrop l c.hear else l) vs v tk
theorem callsT_next {et : Int} {N f : Nat} {l : List Hear} {vs vs' : List Vis} {v v' : Vis} {tk tk' : List Hear} {oc : Option Cal} (hl : l.length ≤ N) (ht : tk.length ≤ N) (hf : left N vs tk < f) (h : nxt l et false vs v tk = (oc, vs', v', tk')) : allIn et f l vs v tk = callsT et f l vs' v' tk' oc := by
  rw [fire_step et N f l vs v tk hl ht hf, h]
  cases oc <;> rfl
theorem less_next {et : Int} {N : Nat} {l : List Hear} {vs vs' : List Vis} {v v' : Vis} {tk tk' : List Hear} {oc : Option Cal} (hl : l.length ≤ N) (ht : tk.length ≤ N) (h : nxt l et false vs v tk = (oc, vs', v', tk')) (ho : oc.isSome = true) : left N vs' tk' < left N vs tk ∧ tk'.length ≤ N := by
  cases oc with
  | none => cases ho
  | some c => exact nxt_less l et false N hl vs v tk ht c (vs', v', tk') h
theorem visL_le (p : List Stp3) (b : Bool) : (visL p b).length ≤ 2 * p.length := by
  have := List.length_filter_le (fun x => b || x.phase == 2) (p.map (visOf · 3))
  simp only [visL, List.length_append, List.length_map, List.length_reverse] at this ⊢
  omega
/-- How many rounds are enough. -/
def fuelT (l : List Hear) (vs : List Vis) : Nat := left l.length vs [] + 1
def fireT (t : List Nd) (et tg re : Int) (bub comp : Bool) (l : List Hear) : List Cal := if mayT t = true ∧ isN t tg = true then allIn et (fuelT l (visL (pathT t comp tg re tg) bub)) l (visL (pathT t comp tg re tg) bub) vis0 [] else []
/-- What is held between two calls. -/
structure AllAt (w : World) (B Bc : Nat) (et tg re : Int) (bub can comp : Bool) (N f : Nat) (F : List Cal) (W : World) (u7 u2 : Value) (l2 : List Hear) (vs : List Vis) (v : Vis) (tk : List Hear) (out : List Cal) (oc : Option Cal) (S T : Nat → Prop) : Prop where mk ::
  run : RunAt S B W et tg re bub can comp vs v tk false false
  hears : Row hearK T W u2 l2
  own : Own calK 41 (fun k => w.heap.size ≤ k ∧ k ≠ B ∧ k ≠ Bc ∧ ¬ S k ∧ ¬ T k) W u7 out
  cell : W.heap[Bc]? = some (.cells (oc.getD cal0).arr 41 (0, 0))
  inS : ∀ k, S k → k < W.heap.size ∧ k ≠ B ∧ k ≠ Bc
  inT : ∀ k, T k → k < W.heap.size ∧ k ≠ B ∧ k ≠ Bc
  bs : B < W.heap.size ∧ B ≠ Bc ∧ w.heap.size ≤ B ∧ w.heap.size ≤ Bc
  stp : Stp w W
  lens : l2.length ≤ N ∧ (oc.isSome = true → tk.length ≤ N ∧ left N vs tk < f ∧ out.length + 1 + left N vs tk ≤ f)
  all : out ++ callsT et f l2 vs v tk oc = F
set_option maxRecDepth 100000 in
set_option maxHeartbeats 4000000 in
theorem all_yes {S0 T0 : Nat → Prop} {w : World} {v0 : Value} {t : List Nd} (hr : Row nodeK S0 w v0 t) (hks : KidsOk t) (hl : t.length ≤ 900) {u : Value} {l : List Hear} (hu : Row hearK T0 w u l) (hll : l.length ≤ 1000) (et : Int) {tg : Int} (re : Int) (bub can comp : Bool) (ho : mayT t = true ∧ isN t tg = true) :
    Calls Tryz.prog 6 #[v0, .agg #[.int .i64 et, .int .i64 tg, .int .i64 re, .bool bub, .bool can, .bool comp], u] w fun e w' => ∃ u', e = .returned u' ∧ Own calK 41 (w.heap.size ≤ ·) w' u' (allIn et (fuelT l (visL (pathT t comp tg re tg) bub)) l (visL (pathT t comp tg re tg) bub) vis0 []) ∧ Stp w w' := by
  obtain ⟨A, cc, rfl, hc, hm⟩ := hr.form
  have cn := fun W (h : Stp w W) => new_yes (hr.stp h) hks hl et re bub can comp ho
  have hvl : (visL (pathT t comp tg re tg) bub).length ≤ 2000 := by
    have h1 := visL_le (pathT t comp tg re tg) bub
    have := (May.of ho.1).path_len comp tg re tg (.inr ho.2)
    omega
  generalize visL (pathT t comp tg re tg) bub = vs0 at cn hvl ⊢
  obtain ⟨F, hF⟩ : ∃ F, allIn et (fuelT l vs0) l vs0 vis0 [] = F := ⟨_, rfl⟩
  rw [hF]
  obtain ⟨N, hNn⟩ : ∃ N, l.length = N := ⟨_, rfl⟩
  obtain ⟨f, hf⟩ : ∃ f, fuelT l vs0 = f := ⟨_, rfl⟩
  rw [hf] at hF
  have hf1 : left N vs0 [] + 1 = f := by rw [← hf, ← hNn]; rfl
  have hfb : f ≤ 10000000 := by
    have h2 : left N vs0 [] ≤ 2000 * 1001 := by
      simp only [left, List.length_nil]
      exact Nat.mul_le_mul hvl (by omega)
    omega
  have e0 := box_at w #[.int .i64 et, .int .i64 tg, .int .i64 re, .bool bub, .bool can, .bool comp] 25 0 _ rfl
  have e1 := box_at w #[.int .i64 et, .int .i64 tg, .int .i64 re, .bool bub, .bool can, .bool comp] 25 1 _ rfl
  have e2 := box_at w #[.int .i64 et, .int .i64 tg, .int .i64 re, .bool bub, .bool can, .bool comp] 25 2 _ rfl
  have e3 := box_at w #[.int .i64 et, .int .i64 tg, .int .i64 re, .bool bub, .bool can, .bool comp] 25 3 _ rfl
  have e4 := box_at w #[.int .i64 et, .int .i64 tg, .int .i64 re, .bool bub, .bool can, .bool comp] 25 4 _ rfl
  have e5 := box_at w #[.int .i64 et, .int .i64 tg, .int .i64 re, .bool bub, .bool can, .bool comp] 25 5 _ rfl
  have hub := hu.bound
  have hz0 : w.heap.size ≤ (w.alloc (.cells #[.int .i64 et, .int .i64 tg, .int .i64 re, .bool bub, .bool can, .bool comp] 25)).heap.size := by simp
  clear hf hu hr hks
  go_enter Tryz.func6, Tryz.ntmps6
  go_upto_region 3 with (go_at_call 10; refine (show Calls Tryz.prog 10 _ _ _ from cn _ Lime.stp_).mono ?_; rintro e w1 ⟨B, rfl, hB, R1, hb1⟩)
  have hs1 : Stp w w1 := Stp.trans Lime.stp_ hb1
  have hB1 : B < w1.heap.size := by obtain ⟨_, _, h, _⟩ := R1.cells; exact (Array.getElem?_eq_some_iff.1 h).1
  have hBw : w.heap.size ≤ B := Nat.le_trans hz0 hB
  have R1 := R1.bound
  clear cn e0 e1 e2 e3 e4 e5 hb1
  have hl1 := hub.stp hs1
  have cx := next_c R1 (fun h => h.1.2 rfl) hl1 (fun h => by have := h.2; omega) hll
  have hNl := fun oc' vs' v' tk' h ho => less_next (N := N) (et := et) (vs := vs0) (v := vis0) (oc := oc') (vs' := vs') (v' := v') (tk' := tk') (Nat.le_of_eq hNn) (tk := []) (Nat.zero_le _) h ho
  have hNx := fun oc' vs' v' tk' h => callsT_next (N := N) (f := f) (et := et) (vs := vs0) (v := vis0) (oc := oc') (vs' := vs') (v' := v') (tk' := tk') (Nat.le_of_eq hNn) (tk := []) (Nat.zero_le _) (by omega) h
  generalize hN : nxt l et false vs0 vis0 [] = Nx at cx
  obtain ⟨oc, vs1, v1, tk1⟩ := Nx
  replace hNl := hNl _ _ _ _ hN
  replace hNx := hNx _ _ _ _ hN
  dsimp only at cx
  generalize hc' : oc.getD cal0 = c' at cx
  simp only [Cal.arr] at cx
  clear hN
  go_wp2_with (go_at_call 11; refine cx.mono ?_; rintro e w2 ⟨rfl, R2, hk2⟩)
  have hz2 := hk2.size
  obtain ⟨w3, hw3, hs3, hz3, hBn⟩ := box10 w2 (.int .i64 c'.hear.node) (.int .i64 c'.hear.type) (.bool c'.hear.cap) (.bool c'.hear.once) (.int .i64 c'.hear.prog) (.int .i64 c'.vis.stop.node) (.int .i64 c'.vis.stop.target) (.int .i64 c'.vis.stop.related) (.int .i64 c'.vis.phase) (.bool c'.vis.cap)
  rw [hw3]
  clear hw3 cx
  go_loopg [2, 7, 9, 10] (left N vs0 []) (fun gg s2 s7 s9 s10 W => ∃ (l2 : List Hear) (vs : List Vis) (v : Vis) (tk : List Hear) (out : List Cal) (oc : Option Cal) (Bc : Nat), (oc.isSome = true → left N vs tk < gg) ∧ s9 = .pointer (some ⟨Bc, 0, none⟩) ∧ s10 = .bool oc.isSome ∧ ∃ S T : Nat → Prop, AllAt w B Bc et tg re bub can comp N f F W s7 s2 l2 vs v tk out oc S T)
  case atStart =>
    have hs2 : Stp w w2 := ((Kpt.of_stp (O := fun _ => False) hs1).trans hk2 fun x hx => .inr (by omega)).stp fun x h => h.elim
    have hsz1 := hs1.size
    refine ⟨l, vs1, v1, tk1, [], oc, w2.heap.size, fun h => (hNl h).1, rfl, rfl, (fun k => runS (fun k => (_ ≤ k ∧ k ≠ B) ∧ k < w1.heap.size) w1 k ∧ k < w2.heap.size), (fun k => T0 k ∧ k < w.heap.size), ⟨R2.bound.stp hs3, (hl1.kpt hk2 fun k hk _ e => by have := hk.2; omega).stp hs3, Own.nil _ _ _ _, by rw [hc']; exact hBn, ?_, ?_, ⟨by omega, by omega, hBw, by omega⟩, hs2.trans hs3, ⟨Nat.le_of_eq hNn, fun h => ⟨(hNl h).2, ?_, ?_⟩⟩, ?_⟩⟩
    · intro k hk
      rcases hk.1 with h | h
      · exact ⟨by omega, h.1.1.2, by omega⟩
      · exact ⟨by omega, by omega, by omega⟩
    · intro k hk
      have := hk.2
      exact ⟨by omega, by omega, by omega⟩
    · have := (hNl h).1; omega
    · have := (hNl h).1; simp only [List.length_nil]; omega
    · rw [List.nil_append, ← hNx]; exact hF
  case round =>
    clear hBn R2 R1 hl1 hub hk2 hs3 hs1 hNl hNx hF hc'
    obtain ⟨l2, vs, v, tk, out, oc, Bc, hg, rfl, rfl, S, T, HA⟩ := hrel
    cases oc with
    | none =>
      go_wp2
      go_ret
      have hF := HA.all
      rw [callsT, List.append_nil] at hF
      exact ⟨_, rfl, by rw [← hF]; exact HA.own.mono fun k hk _ => hk.1, HA.stp⟩
    | some c =>
      obtain ⟨R, hl2, HO, hBc, hS, hT, hbs, hs, hlens, hF⟩ := HA
      obtain ⟨hln2, hA⟩ := hlens
      replace hA := hA rfl
      have hBc' : wr.heap[Bc]? = some (.cells c.arr 41 (0, 0)) := hBc
      clear hBc
      have hBcl := (Array.getElem?_eq_some_iff.1 hBc').1
      obtain ⟨d0, _⟩ := inB hBc' 0 _ rfl
      obtain ⟨d1, _⟩ := inB hBc' 1 _ rfl
      obtain ⟨d2, _⟩ := inB hBc' 2 _ rfl
      obtain ⟨d3, _⟩ := inB hBc' 3 _ rfl
      obtain ⟨d4, _⟩ := inB hBc' 4 _ rfl
      obtain ⟨d5, _⟩ := inB hBc' 5 _ rfl
      obtain ⟨d6, _⟩ := inB hBc' 6 _ rfl
      obtain ⟨d7, _⟩ := inB hBc' 7 _ rfl
      obtain ⟨d8, _⟩ := inB hBc' 8 _ rfl
      obtain ⟨d9, _⟩ := inB hBc' 9 _ rfl
      have hfr : ∀ k, wr.heap.size ≤ k → w.heap.size ≤ k ∧ k ≠ B ∧ k ≠ Bc ∧ ¬ S k ∧ ¬ T k := fun k hk => ⟨Nat.le_trans hs.size hk, by omega, by omega, fun h => by have := (hS k h).1; omega, fun h => by have := (hT k h).1; omega⟩
      go_upto_region 7 with (at_builtin; refine wpl_append1 (d := calK) (S := fun k => w.heap.size ≤ k ∧ k ≠ B ∧ k ≠ Bc ∧ ¬ S k ∧ ¬ T k) (T := fun _ => False) rfl (.tmp 27) (.tmp 29) 29 41 _ 72 rfl Tryz.underlying29 infoCal rfl (by decide) (by decide) _ out c _ rfl (by first | (go_simp; done) | (go_simp; rfl)) (by show _ = Cal.cells c; simp [Cal.cells, *]) (fun _ h _ => h.elim) HO hfr (by omega) ?_; intro v1 w1 ho hg2)
      have hkA : Kpt (fun k => w.heap.size ≤ k ∧ k ≠ B ∧ k ≠ Bc ∧ ¬ S k ∧ ¬ T k) wr w1 := Kpt.of_grown hg2 HO.blk
      have hz1 := hkA.size
      have R1 := R.kpt hkA (fun h => h.2.1 rfl) (fun k hk _ h => h.2.2.2.1 hk)
      have hl3 := hl2.kpt hkA (fun k hk _ h => h.2.2.2.2 hk)
      have hBc1 := (hkA.block _ hBcl (fun h => h.2.2.1 rfl)).trans hBc'
      have hs1 : Stp w w1 := ((Kpt.of_stp (O := fun _ => False) hs).trans hkA fun x hx => .inr hx.1).stp fun x h => h.elim
      clear d0 d1 d2 d3 d4 d5 d6 d7 d8 d9 hfr R hl2 HO hBc' hg2 hkA
      obtain ⟨d0, _⟩ := inB hBc1 0 _ rfl
      obtain ⟨d1, _⟩ := inB hBc1 1 _ rfl
      obtain ⟨d2, _⟩ := inB hBc1 2 _ rfl
      obtain ⟨d3, _⟩ := inB hBc1 3 (.bool c.hear.once) rfl
      obtain ⟨d4, _⟩ := inB hBc1 4 _ rfl
      simp only [callsT] at hF
      cases hon : c.hear.once with
      | false =>
        rw [if_neg (by simp [hon])] at hF
        rw [hon] at d3
        go_upto_region 9 with fail
        have hBc4 : w1.heap[Bc]? = some (.cells #[.int .i64 c.hear.node, .int .i64 c.hear.type, .bool c.hear.cap, .bool false, .int .i64 c.hear.prog, .int .i64 c.vis.stop.node, .int .i64 c.vis.stop.target, .int .i64 c.vis.stop.related, .int .i64 c.vis.phase, .bool c.vis.cap] 41 (0, 0)) := by rw [hBc1, Cal.arr, hon]
        clear d0 d1 d2 d3 d4 hBc1
        have R4 := R1
        have hl4 := hl3
        obtain ⟨T4, hT4e⟩ : ∃ T4, T4 = T := ⟨_, rfl⟩
        have hT4 : ∀ k, T4 k → k < w1.heap.size ∧ k ≠ B := fun k hk => by rw [hT4e] at hk; exact ⟨by have := (hT k hk).1; omega, (hT k hk).2.1⟩
        have hS4 : ∀ k, S k → k < w1.heap.size ∧ k ≠ B := fun k hk => ⟨by have := (hS k hk).1; omega, (hS k hk).2.1⟩
        have HO4 : Own calK 41 (fun k => w.heap.size ≤ k ∧ k ≠ B ∧ ¬ S k ∧ ¬ T4 k) w1 v1 (out ++ [c]) := ho.mono fun k hk _ => ⟨hk.1, hk.2.1, hk.2.2.2.1, by rw [hT4e]; exact hk.2.2.2.2⟩
        rw [← hT4e] at hl4
        have hs4 := hs1
        have hln := hln2
        clear R1 hl3 ho hs1 hT4e hln2
        replace hA : True ∧ tk.length ≤ N ∧ left N vs tk < f ∧ out.length + 1 + left N vs tk ≤ f := ⟨trivial, hA⟩
        obtain ⟨d0, _⟩ := inB hBc4 0 _ rfl
        obtain ⟨d1, _⟩ := inB hBc4 1 _ rfl
        obtain ⟨d2, _⟩ := inB hBc4 2 _ rfl
        obtain ⟨d3, _⟩ := inB hBc4 3 _ rfl
        obtain ⟨d4, _⟩ := inB hBc4 4 _ rfl
        obtain ⟨d5, _⟩ := inB hBc4 5 _ rfl
        obtain ⟨d6, _⟩ := inB hBc4 6 _ rfl
        obtain ⟨d7, _⟩ := inB hBc4 7 _ rfl
        obtain ⟨d8, _⟩ := inB hBc4 8 _ rfl
        obtain ⟨d9, _⟩ := inB hBc4 9 _ rfl
        go_upto_region 5 with fail
        obtain ⟨w5, hw5, hs5, hz5, hBn⟩ := box10 w1 (.int .i64 c.hear.node) (.int .i64 c.hear.type) (.bool c.hear.cap) (.bool false) (.int .i64 c.hear.prog) (.int .i64 c.vis.stop.node) (.int .i64 c.vis.stop.target) (.int .i64 c.vis.stop.related) (.int .i64 c.vis.phase) (.bool c.vis.cap)
        rw [hw5]
        clear hw5 d0 d1 d2 d3 d4 d5 d6 d7 d8 d9 hBc4
        have R5 := R4.stp hs5
        have hl5 := hl4.stp hs5
        have HO5 := HO4.stp hs5
        have hB4 : B < w1.heap.size := by omega
        have cx := next_c R5 (fun h => (hS4 _ h).2 rfl) hl5 (fun h => (hT4 _ h).2 rfl) (by omega)
        have hNl := fun oc' vs' v' tk' h ho => less_next (et := et) (vs := vs) (v := v) (oc := oc') (vs' := vs') (v' := v') (tk' := tk') hln hA.2.1 h ho
        have hNx := fun oc' vs' v' tk' h => callsT_next (f := f) (et := et) (vs := vs) (v := v) (oc := oc') (vs' := vs') (v' := v') (tk' := tk') hln hA.2.1 hA.2.2.1 h
        generalize hN : nxt _ et false vs v tk = Nx at cx
        obtain ⟨oc', vs', v', tk'⟩ := Nx
        replace hNl := hNl _ _ _ _ hN
        replace hNx := hNx _ _ _ _ hN
        dsimp only at cx
        generalize hc' : oc'.getD cal0 = c' at cx
        simp only [Cal.arr] at cx
        clear hN
        go_wp2_with (go_at_call 11; refine cx.mono ?_; rintro e w6 ⟨rfl, R6, hk6⟩; have hB6 := (hk6.block _ (by omega) (by omega)).trans hBn; obtain ⟨d0, g0⟩ := inB hB6 0 _ rfl; obtain ⟨d1, g1⟩ := inB hB6 1 _ rfl; obtain ⟨d2, g2⟩ := inB hB6 2 _ rfl; obtain ⟨d3, g3⟩ := inB hB6 3 _ rfl; obtain ⟨d4, g4⟩ := inB hB6 4 _ rfl; obtain ⟨d5, g5⟩ := inB hB6 5 _ rfl; obtain ⟨d6, g6⟩ := inB hB6 6 _ rfl; obtain ⟨d7, g7⟩ := inB hB6 7 _ rfl; obtain ⟨d8, g8⟩ := inB hB6 8 _ rfl; obtain ⟨d9, g9⟩ := inB hB6 9 _ rfl)
        go_roundg (left N vs tk)
        case measure => exact hg rfl
        case rel =>
          clear d0 d1 d2 d3 d4 d5 d6 d7 d8 d9 g0 g1 g2 g3 g4 g5 g6 g7 g8 g9 cx
          have hz6 := hk6.size
          have hk7 := kpt10 (w := w6) (B := w1.heap.size) (a0 := .int .i64 c'.hear.node) (a1 := .int .i64 c'.hear.type) (a2 := .bool c'.hear.cap) (a3 := .bool c'.hear.once) (a4 := .int .i64 c'.hear.prog) (a5 := .int .i64 c'.vis.stop.node) (a6 := .int .i64 c'.vis.stop.target) (a7 := .int .i64 c'.vis.stop.related) (a8 := .int .i64 c'.vis.phase) (a9 := .bool c'.vis.cap)
          have hB7 := put10 (a0 := .int .i64 c'.hear.node) (a1 := .int .i64 c'.hear.type) (a2 := .bool c'.hear.cap) (a3 := .bool c'.hear.once) (a4 := .int .i64 c'.hear.prog) (a5 := .int .i64 c'.vis.stop.node) (a6 := .int .i64 c'.vis.stop.target) (a7 := .int .i64 c'.vis.stop.related) (a8 := .int .i64 c'.vis.phase) (a9 := .bool c'.vis.cap) hB6
          have hz7 := hk7.size
          refine ⟨l2, vs', v', tk', out ++ [c], oc', w1.heap.size, fun h => (hNl h).1, rfl, rfl, fun k => runS S w5 k ∧ k < w6.heap.size, fun k => T4 k, ⟨?_, ?_, ?_, ?_, ?_, ?_, ?_, ?_, ?_, ?_⟩⟩
          · exact R6.bound.kpt hk7 (by omega) fun k hk _ e => by
              rcases hk.1 with h | h
              · have := (hS4 k h.1).1; omega
              · omega
          · exact (hl5.kpt hk6 fun k hk _ e => (hT4 k hk).2 e).kpt hk7 fun k hk _ e => by have := (hT4 k hk).1; omega
          · refine Own.kpt (O := fun k => k = w1.heap.size) (Own.kpt (O := fun k => k = B) ((HO4.mono fun k hk hkl => ⟨hk.1, hk.2.1, by omega, fun h => ?_, hk.2.2.2⟩).stp hs5) hk6 fun k hk _ e => hk.2.1 e) hk7 fun k hk _ e => hk.2.2.1 e
            rcases h.1 with h | h
            · exact hk.2.2.1 h.1
            · omega
          · rw [hc']; exact hB7
          · intro k hk
            rcases hk.1 with h | h
            · have := hS4 k h.1; exact ⟨by omega, this.2, by omega⟩
            · exact ⟨by omega, by omega, by omega⟩
          · intro k hk
            have := hT4 k hk
            exact ⟨by omega, this.2, by omega⟩
          · exact ⟨by omega, by omega, by omega, by have := hs4.size; omega⟩
          · exact (((Kpt.of_stp (O := fun _ => False) (hs4.trans hs5)).trans hk6 fun x hx => .inr (by omega)).trans hk7 fun x hx => .inr (by have := hs4.size; omega)).stp fun x h => h.elim
          · refine ⟨hln, fun h => ⟨(hNl h).2, ?_, ?_⟩⟩
            · have := (hNl h).1; omega
            · have := (hNl h).1; rw [List.length_append, List.length_singleton]; omega
          · rw [List.append_assoc, ← hNx]; exact hF
      | true =>
        rw [if_pos (by simp [hon])] at hF
        rw [hon] at d3
        have cd := H.drop_s hl3 (by omega) c.hear
        simp only [Hear.val, hon] at cd
        go_upto_region 9 with (go_at_call 14; refine cd.mono ?_; rintro e w4 ⟨u4, rfl, hl4', hb4⟩)
        have hBc4 : w4.heap[Bc]? = some (.cells #[.int .i64 c.hear.node, .int .i64 c.hear.type, .bool c.hear.cap, .bool true, .int .i64 c.hear.prog, .int .i64 c.vis.stop.node, .int .i64 c.vis.stop.target, .int .i64 c.vis.stop.related, .int .i64 c.vis.phase, .bool c.vis.cap] 41 (0, 0)) := by rw [hb4.heap hBc1, Cal.arr, hon]
        have hzb4 := hb4.size
        have hl4 := hl4'.bound
        have R4 := R1.stp hb4
        obtain ⟨T4, hT4e⟩ : ∃ T4, (fun k => (T k ∨ w1.heap.size ≤ k) ∧ k < w4.heap.size) = T4 := ⟨_, rfl⟩
        have hT4 : ∀ k, T4 k → k < w4.heap.size ∧ k ≠ B := fun k hk => by
          rw [← hT4e] at hk
          refine ⟨hk.2, ?_⟩
          rcases hk.1 with h | h
          · exact (hT k h).2.1
          · omega
        have hS4 : ∀ k, S k → k < w4.heap.size ∧ k ≠ B := fun k hk => ⟨by have := (hS k hk).1; omega, (hS k hk).2.1⟩
        have HO4 : Own calK 41 (fun k => w.heap.size ≤ k ∧ k ≠ B ∧ ¬ S k ∧ ¬ T4 k) w4 v1 (out ++ [c]) := (ho.mono fun k hk hkl => ⟨hk.1, hk.2.1, hk.2.2.2.1, by
          rw [← hT4e]
          intro h
          rcases h.1 with h | h
          · exact hk.2.2.2.2 h
          · omega⟩).stp hb4
        rw [hT4e] at hl4
        have hs4 := hs1.trans hb4
        have hln : (hearDrop l2 c.hear).length ≤ N := Nat.le_trans (drop_sub l2 c.hear).length_le hln2
        clear R1 hl3 ho hs1 hT4e hln2 hl4' hb4 hBc1 d0 d1 d2 d3 d4 cd
        generalize hearDrop l2 c.hear = l3 at *
        replace hA : True ∧ tk.length ≤ N ∧ left N vs tk < f ∧ out.length + 1 + left N vs tk ≤ f := ⟨trivial, hA⟩
        obtain ⟨d0, _⟩ := inB hBc4 0 _ rfl
        obtain ⟨d1, _⟩ := inB hBc4 1 _ rfl
        obtain ⟨d2, _⟩ := inB hBc4 2 _ rfl
        obtain ⟨d3, _⟩ := inB hBc4 3 _ rfl
        obtain ⟨d4, _⟩ := inB hBc4 4 _ rfl
        obtain ⟨d5, _⟩ := inB hBc4 5 _ rfl
        obtain ⟨d6, _⟩ := inB hBc4 6 _ rfl
        obtain ⟨d7, _⟩ := inB hBc4 7 _ rfl
        obtain ⟨d8, _⟩ := inB hBc4 8 _ rfl
        obtain ⟨d9, _⟩ := inB hBc4 9 _ rfl
        go_upto_region 5 with fail
        obtain ⟨w5, hw5, hs5, hz5, hBn⟩ := box10 w4 (.int .i64 c.hear.node) (.int .i64 c.hear.type) (.bool c.hear.cap) (.bool true) (.int .i64 c.hear.prog) (.int .i64 c.vis.stop.node) (.int .i64 c.vis.stop.target) (.int .i64 c.vis.stop.related) (.int .i64 c.vis.phase) (.bool c.vis.cap)
        rw [hw5]
        clear hw5 d0 d1 d2 d3 d4 d5 d6 d7 d8 d9 hBc4
        have R5 := R4.stp hs5
        have hl5 := hl4.stp hs5
        have HO5 := HO4.stp hs5
        have hB4 : B < w4.heap.size := by omega
        have cx := next_c R5 (fun h => (hS4 _ h).2 rfl) hl5 (fun h => (hT4 _ h).2 rfl) (by omega)
        have hNl := fun oc' vs' v' tk' h ho => less_next (et := et) (vs := vs) (v := v) (oc := oc') (vs' := vs') (v' := v') (tk' := tk') hln hA.2.1 h ho
        have hNx := fun oc' vs' v' tk' h => callsT_next (f := f) (et := et) (vs := vs) (v := v) (oc := oc') (vs' := vs') (v' := v') (tk' := tk') hln hA.2.1 hA.2.2.1 h
        generalize hN : nxt _ et false vs v tk = Nx at cx
        obtain ⟨oc', vs', v', tk'⟩ := Nx
        replace hNl := hNl _ _ _ _ hN
        replace hNx := hNx _ _ _ _ hN
        dsimp only at cx
        generalize hc' : oc'.getD cal0 = c' at cx
        simp only [Cal.arr] at cx
        clear hN
        go_wp2_with (go_at_call 11; refine cx.mono ?_; rintro e w6 ⟨rfl, R6, hk6⟩; have hB6 := (hk6.block _ (by omega) (by omega)).trans hBn; obtain ⟨d0, g0⟩ := inB hB6 0 _ rfl; obtain ⟨d1, g1⟩ := inB hB6 1 _ rfl; obtain ⟨d2, g2⟩ := inB hB6 2 _ rfl; obtain ⟨d3, g3⟩ := inB hB6 3 _ rfl; obtain ⟨d4, g4⟩ := inB hB6 4 _ rfl; obtain ⟨d5, g5⟩ := inB hB6 5 _ rfl; obtain ⟨d6, g6⟩ := inB hB6 6 _ rfl; obtain ⟨d7, g7⟩ := inB hB6 7 _ rfl; obtain ⟨d8, g8⟩ := inB hB6 8 _ rfl; obtain ⟨d9, g9⟩ := inB hB6 9 _ rfl)
        go_roundg (left N vs tk)
        case measure => exact hg rfl
        case rel =>
          clear d0 d1 d2 d3 d4 d5 d6 d7 d8 d9 g0 g1 g2 g3 g4 g5 g6 g7 g8 g9 cx
          have hz6 := hk6.size
          have hk7 := kpt10 (w := w6) (B := w4.heap.size) (a0 := .int .i64 c'.hear.node) (a1 := .int .i64 c'.hear.type) (a2 := .bool c'.hear.cap) (a3 := .bool c'.hear.once) (a4 := .int .i64 c'.hear.prog) (a5 := .int .i64 c'.vis.stop.node) (a6 := .int .i64 c'.vis.stop.target) (a7 := .int .i64 c'.vis.stop.related) (a8 := .int .i64 c'.vis.phase) (a9 := .bool c'.vis.cap)
          have hB7 := put10 (a0 := .int .i64 c'.hear.node) (a1 := .int .i64 c'.hear.type) (a2 := .bool c'.hear.cap) (a3 := .bool c'.hear.once) (a4 := .int .i64 c'.hear.prog) (a5 := .int .i64 c'.vis.stop.node) (a6 := .int .i64 c'.vis.stop.target) (a7 := .int .i64 c'.vis.stop.related) (a8 := .int .i64 c'.vis.phase) (a9 := .bool c'.vis.cap) hB6
          have hz7 := hk7.size
          refine ⟨l3, vs', v', tk', out ++ [c], oc', w4.heap.size, fun h => (hNl h).1, rfl, rfl, fun k => runS S w5 k ∧ k < w6.heap.size, fun k => T4 k, ⟨?_, ?_, ?_, ?_, ?_, ?_, ?_, ?_, ?_, ?_⟩⟩
          · exact R6.bound.kpt hk7 (by omega) fun k hk _ e => by
              rcases hk.1 with h | h
              · have := (hS4 k h.1).1; omega
              · omega
          · exact (hl5.kpt hk6 fun k hk _ e => (hT4 k hk).2 e).kpt hk7 fun k hk _ e => by have := (hT4 k hk).1; omega
          · refine Own.kpt (O := fun k => k = w4.heap.size) (Own.kpt (O := fun k => k = B) ((HO4.mono fun k hk hkl => ⟨hk.1, hk.2.1, by omega, fun h => ?_, hk.2.2.2⟩).stp hs5) hk6 fun k hk _ e => hk.2.1 e) hk7 fun k hk _ e => hk.2.2.1 e
            rcases h.1 with h | h
            · exact hk.2.2.1 h.1
            · omega
          · rw [hc']; exact hB7
          · intro k hk
            rcases hk.1 with h | h
            · have := hS4 k h.1; exact ⟨by omega, this.2, by omega⟩
            · exact ⟨by omega, by omega, by omega⟩
          · intro k hk
            have := hT4 k hk
            exact ⟨by omega, this.2, by omega⟩
          · exact ⟨by omega, by omega, by omega, by have := hs4.size; omega⟩
          · exact (((Kpt.of_stp (O := fun _ => False) (hs4.trans hs5)).trans hk6 fun x hx => .inr (by omega)).trans hk7 fun x hx => .inr (by have := hs4.size; omega)).stp fun x h => h.elim
          · refine ⟨hln, fun h => ⟨(hNl h).2, ?_, ?_⟩⟩
            · have := (hNl h).1; omega
            · have := (hNl h).1; rw [List.length_append, List.length_singleton]; omega
          · rw [List.append_assoc, ← hNx]; exact hF
set_option maxRecDepth 100000 in
set_option maxHeartbeats 4000000 in
theorem all_no {S0 : Nat → Prop} {w : World} {v0 : Value} {t : List Nd} (hr : Row nodeK S0 w v0 t) (hks : KidsOk t) (u : Value) (et : Int) {tg : Int} (re : Int) (bub can comp : Bool) (ho : ¬ (mayT t = true ∧ isN t tg = true)) :
    Calls Tryz.prog 6 #[v0, .agg #[.int .i64 et, .int .i64 tg, .int .i64 re, .bool bub, .bool can, .bool comp], u] w fun e w' => e = .returned (.slice none 0 0) ∧ Stp w w' := by
  obtain ⟨A, cc, rfl, hc, hm⟩ := hr.form
  have cn := fun W (h : Stp w W) => new_no (hr.stp h) hks et re bub can comp ho
  have e0 := box_at w #[.int .i64 et, .int .i64 tg, .int .i64 re, .bool bub, .bool can, .bool comp] 25 0 _ rfl
  have e1 := box_at w #[.int .i64 et, .int .i64 tg, .int .i64 re, .bool bub, .bool can, .bool comp] 25 1 _ rfl
  have e2 := box_at w #[.int .i64 et, .int .i64 tg, .int .i64 re, .bool bub, .bool can, .bool comp] 25 2 _ rfl
  have e3 := box_at w #[.int .i64 et, .int .i64 tg, .int .i64 re, .bool bub, .bool can, .bool comp] 25 3 _ rfl
  have e4 := box_at w #[.int .i64 et, .int .i64 tg, .int .i64 re, .bool bub, .bool can, .bool comp] 25 4 _ rfl
  have e5 := box_at w #[.int .i64 et, .int .i64 tg, .int .i64 re, .bool bub, .bool can, .bool comp] 25 5 _ rfl
  have cx := fun W => next_nil W u
  simp only [Cal.arr, cal0] at cx
  go_enter Tryz.func6, Tryz.ntmps6
  go_wp2_with (first | (go_at_call 10; refine (show Calls Tryz.prog 10 _ _ _ from cn _ Lime.stp_).mono ?_; rintro e w1 ⟨rfl, hb1⟩) | (go_at_call 11; refine (cx _).mono ?_; rintro e w2 ⟨rfl, hb2⟩))
  go_loopg [2, 7, 9, 10] 0 (fun gg s2 s7 s9 s10 W => s7 = .slice none 0 0 ∧ s10 = .bool false ∧ Stp w W)
  case atStart => exact ⟨rfl, rfl, by (exact Lime.stp_)⟩
  case round =>
    obtain ⟨rfl, rfl, hs⟩ := hrel
    go_wp2
    go_ret
    exact ⟨rfl, hs⟩
end Go.Proofs.Lime
