/- Walk: all calls of an event, as the document tells them. No conditions. -/
import Derived.Test.YtaggmjnpocndkaaGreatRo9
import Derived.Test.YtaggmjnpocndkaaGreatFal
namespace Go.Proofs.Lime.H
open Go.RowKit
set_option linter.unusedVariables false
set_option linter.unusedSimpArgs false
set_option maxHeartbeats 1000000 in
theorem rdrop_s {S : Nat → Prop} {w : World} {v : Value} {xs : List Hear} (hr : Row hearK S w v xs) (hl : xs.length ≤ 1000) (h : Hear) :
    Calls Tryz.prog 17 #[v, h.val] w fun e w' => ∃ u, e = .returned (.tuple #[u, .int .i64 (hearDropErr xs h)]) ∧ Row hearK (fun b => S b ∨ w.heap.size ≤ b) w' u (hearDrop xs h) ∧ Stp w w' := by
  obtain ⟨A, c, rfl, hc, hm⟩ := hr.form
  by_cases hix : 0 ≤ idx (·.one h) xs
  · obtain ⟨i, hi, hil, _⟩ := idx_nat hix
    have hi' := Lib.hid hi
    have ca := fun W (hW : Stp w W) => rplace_c (hr.stp hW) h
    rw [hi] at ca
    clear hi hix
    have g1 : ¬ (i : Int) < 0 := by omega
    go_enter Tryz.func17, Tryz.ntmps17
    go_wp2_with (first | (go_at_call 30; refine (rmay_c h _).mono ?_; rintro e w1 ⟨rfl, hb1⟩; obtain ⟨hc1, hf1⟩ := hb1.bc; have hz1 := hb1.size; (try simp only [World.size_alloc] at hz1 hc1 hf1)) | (go_at_call 31; refine (ca _ Lime.stp_).mono ?_; rintro e w2 ⟨rfl, hb2⟩; clear ca))
    · go_ret2
      exact drop_s_of (hearDrop_1 ‹_›).1 (hearDrop_1 ‹_›).2 (hr.stp Lime.stp_) (fun b hb => .inl hb) Lime.stp_
    · have hmay := Lib.hid ‹(!h.may) = false›
      go_loopg [7, 8] xs.length (fun gg s7 s8 wr => ∃ (k : Nat) (out : List Hear), k ≤ xs.length ∧ xs.length - k ≤ gg ∧ s8 = .int .i64 k ∧ Stp w wr ∧ Own hearK 35 (w.heap.size ≤ ·) wr s7 out ∧ Aside (out = (xs.take k).eraseIdx i))
      case atStart => exact ⟨0, [], Nat.zero_le _, by omega, rfl, by (exact Lime.stp_), Own.nil _ _ _ _, by simp [Aside]⟩
      case round =>
        obtain ⟨k, out, hk, hg, rfl, hb, hO, A1⟩ := hrel
        by_cases hlt : k < xs.length
        · have hltz : (k : Int) < (xs.length : Int) := by omega
          obtain ⟨b, o, rfl, hS, hbw, x0, x1, x2, x3, x4⟩ := hear_at (hr.stp hb) k hlt
          have hT := Lib.hid (List.take_succ_eq_append_getElem hlt)
          generalize hy : xs[k] = y at x0 x1 x2 x3 x4 hT
          clear hy
          have hol : out.length ≤ 1000 := by rw [A1.out]; have := List.length_eraseIdx_le (xs.take k) i; have := List.length_take_le k xs; omega
          by_cases hki : k = i
          · have hq : ((k : Int) != (i : Int)) = false := by simp [hki]
            have HK := Lib.hid hki
            clear hki
            go_wp2
            go_roundg (xs.length - (k + 1))
            case measure => omega
            case rel =>
              refine ⟨k + 1, out, by omega, by omega, by go_num, by (exact Lime.stp_), hO.stp Lime.stp_, ?_⟩
              have h1 := HK.out
              show out = _
              rw [A1.out, hT.out]
              rcases erase_snoc (xs.take k) y i with h2 | h2
              · rw [h2, if_pos (by rw [List.length_take]; omega)]; simp
              · rw [List.length_take] at h2; omega
          · have hq : ((k : Int) != (i : Int)) = true := by simp; omega
            go_wp2_with ((at_builtin; refine wpl_append1 (d := hearK) (S := (w.heap.size ≤ ·)) (T := fun _ => False) rfl (.tmp 28) (.tmp 33) 26 35 _ 32 rfl Tryz.underlying26 infoHear rfl (by decide) (by decide) u7 out y _ rfl (by first | (go_simp; done) | (go_simp; rfl)) (by show _ = Hear.cells y; simp [Hear.cells, *]) (fun _ h _ => h.elim) (hO.stp Lime.stp_) (fun k hk => Nat.le_trans (Stp.size Lime.stp_) hk) (by omega) ?_; intro v1 w1 ho hg2; have hb2 : Stp w w1 := Stp.grown Lime.stp_ hg2 hO.blk))
            go_roundg (xs.length - (k + 1))
            case measure => omega
            case rel =>
              refine ⟨k + 1, out ++ [y], by omega, by omega, by go_num, hb2, ho, ?_⟩
              show out ++ [y] = _
              rw [A1.out, hT.out]
              rcases erase_snoc (xs.take k) y i with h2 | h2
              · rw [h2, if_neg (by rw [List.length_take]; omega)]
              · rw [List.length_take] at h2
                rw [List.eraseIdx_of_length_le (by rw [List.length_take]; omega), List.eraseIdx_of_length_le (by rw [List.length_append, List.length_take]; simp; omega)]
        · have hltz : ¬ (k : Int) < (xs.length : Int) := by omega
          go_wp2
          go_ret2
          refine drop_s_of (hearDrop_3 hmay.out hi'.out).1 (hearDrop_3 hmay.out hi'.out).2 ?_ (fun b hb => .inr hb) Lime.stp_
          rw [show xs = xs.take k from (List.take_of_length_le (by omega)).symm, ← A1.out]
          exact hO.reads
  · have hix' : idx (·.one h) xs < 0 := by omega
    go_enter Tryz.func17, Tryz.ntmps17
    go_wp2_with (first | (go_at_call 30; refine (rmay_c h _).mono ?_; rintro e w1 ⟨rfl, hb1⟩; obtain ⟨hc1, hf1⟩ := hb1.bc; have hz1 := hb1.size; (try simp only [World.size_alloc] at hz1 hc1 hf1)) | (go_at_call 31; refine (rplace_c (hr.stp Lime.stp_) h).mono ?_; rintro e w2 ⟨rfl, hb2⟩; obtain ⟨hc2, hf2⟩ := hb2.bc; have hz2 := hb2.size; (try simp only [World.size_alloc] at hz2 hc2 hf2)))
    · go_ret2
      exact drop_s_of (hearDrop_1 ‹_›).1 (hearDrop_1 ‹_›).2 (hr.stp Lime.stp_) (fun b hb => .inl hb) Lime.stp_
    · go_ret2
      exact drop_s_of (hearDrop_2 ‹_› hix').1 (hearDrop_2 ‹_› hix').2 (hr.stp Lime.stp_) (fun b hb => .inl hb) Lime.stp_
end Go.Proofs.Lime.H
namespace Go.Proofs.Lime
open Go.RowKit
set_option linter.unusedVariables false
set_option linter.unusedSimpArgs false
attribute [local go_sem] Oper.semAt_some
theorem pnil3 (w : World) (p : Option Addr) : (binOp .eql 62 (.pointer p) (.pointer none)).run Tryz.prog w = .ok (.bool p.isNone) w := run_eql_pointer_nil w _ p (by kernel_rfl)
attribute [local go_sem high] pnil3
theorem infoRC : (Tryz.prog.info? 46).map (fun i => (i.zero, i.size, i.bytes)) = some (some (.agg #[.int .i64 0, .int .i64 0, .bool false, .bool false, .int .i64 0, .int .i64 0, .int .i64 0, .int .i64 0, .int .i64 0, .bool false]), 10, 72) := by kernel_rfl
theorem rbox10 (w : World) (a0 a1 a2 a3 a4 a5 a6 a7 a8 a9 : Value) : ∃ w1, w.alloc (.cells #[a0, a1, a2, a3, a4, a5, a6, a7, a8, a9] 46) = w1 ∧ Stp w w1 ∧ w1.heap.size = w.heap.size + 1 ∧ w1.heap[w.heap.size]? = some (.cells #[a0, a1, a2, a3, a4, a5, a6, a7, a8, a9] 46 (0, 0)) :=
  ⟨_, rfl, (Stp.refl w).alloc _, by simp, World.alloc_heap_new w _⟩
/-- What is held between two calls. -/
structure RAllAt (w : World) (B : Nat) (et tg re : Int) (bub can comp : Bool) (N f : Nat) (F : List Cal) (W : World) (u7 u2 : Value) (l2 : List Hear) (vs : List Vis) (v : Vis) (tk : List Hear) (out : List Cal) (S T : Nat → Prop) : Prop where mk ::
  run : RRun S B W et tg re bub can comp vs v tk false false
  hears : Row hearK T W u2 l2
  own : Own calK 46 (fun k => w.heap.size ≤ k ∧ k ≠ B ∧ ¬ S k ∧ ¬ T k) W u7 out
  inS : ∀ k, S k → k < W.heap.size ∧ k ≠ B
  inT : ∀ k, T k → k < W.heap.size ∧ k ≠ B
  bs : B < W.heap.size ∧ w.heap.size ≤ B
  stp : Stp w W
  lens : l2.length ≤ N ∧ tk.length ≤ N ∧ left N vs tk < f ∧ out.length + left N vs tk ≤ f
  all : out ++ allIn et f l2 vs v tk = F
set_option maxRecDepth 100000 in
set_option maxHeartbeats 4000000 in
theorem rall_yes {S0 T0 : Nat → Prop} {w : World} {v0 : Value} {t : List Nd} (hr : Row nodeK S0 w v0 t) {u : Value} {l : List Hear} (hu : Row hearK T0 w u l) (hll : l.length ≤ 1000) (et : Int) {tg : Int} (re : Int) (bub can comp : Bool) (ho : mayT t = true ∧ isN t tg = true) :
    Calls Tryz.prog 7 #[v0, .agg #[.int .i64 et, .int .i64 tg, .int .i64 re, .bool bub, .bool can, .bool comp], u] w fun e w' => ∃ u', e = .returned u' ∧ Own calK 46 (w.heap.size ≤ ·) w' u' (allIn et (fuelT l (visL (pathT t comp tg re tg) bub)) l (visL (pathT t comp tg re tg) bub) vis0 []) ∧ Stp w w' := by
  obtain ⟨A, cc, rfl, hc, hm⟩ := hr.form
  have cn := fun W (h : Stp w W) => rnew_yes (hr.stp h) et re bub can comp ho
  have hvl : (visL (pathT t comp tg re tg) bub).length ≤ 2000 := by
    have h1 := visL_le (pathT t comp tg re tg) bub
    have := (May.of ho.1).path_len comp tg re tg (.inr ho.2)
    have := (May.of ho.1).len2
    omega
  generalize visL (pathT t comp tg re tg) bub = vs0 at cn hvl ⊢
  obtain ⟨F, hF⟩ : ∃ F, allIn et (fuelT l vs0) l vs0 vis0 [] = F := ⟨_, rfl⟩
  rw [hF]
  obtain ⟨N, hNn⟩ : ∃ N, l.length = N := ⟨_, rfl⟩
  obtain ⟨f, hf⟩ : ∃ f, fuelT l vs0 = f := ⟨_, rfl⟩
  rw [hf] at hF
  have hf1 : left N vs0 [] + 1 = f := by rw [← hf, ← hNn]; rfl
  have hfb : f ≤ 10000000 := by
    have h2 : left N vs0 [] ≤ 2000 * 1001 := by
      simp only [left, List.length_nil]
      exact Nat.mul_le_mul hvl (by omega)
    omega
  obtain ⟨w0, hw0, hs0, hz0, e_⟩ := box_named w #[.int .i64 et, .int .i64 tg, .int .i64 re, .bool bub, .bool can, .bool comp] 25
  have e0 := e_ 0 _ rfl
  have e1 := e_ 1 _ rfl
  have e2 := e_ 2 _ rfl
  have e3 := e_ 3 _ rfl
  have e4 := e_ 4 _ rfl
  have e5 := e_ 5 _ rfl
  have hub := hu.bound
  clear hf hu hr e_
  go_enter Tryz.func7, Tryz.ntmps7
  go_upto_region 1 with fail
  try rw [hw0]
  clear hw0
  go_upto_region 3 with (go_at_call 15; refine (show Calls Tryz.prog 15 _ _ _ from cn _ hs0).mono ?_; rintro e w1 ⟨B, rfl, hB, R1, hb1⟩)
  have hs1 : Stp w w1 := hs0.trans hb1
  have hB1 : B < w1.heap.size := by obtain ⟨_, _, h, _⟩ := R1.cells; exact (Array.getElem?_eq_some_iff.1 h).1
  have hBw : w.heap.size ≤ B := by omega
  have R1 := R1.bound
  have hl1 := hub.stp hs1
  have hz1 := hs1.size
  clear cn e0 e1 e2 e3 e4 e5 hb1
  go_wp2_with fail
  go_loopg [2, 7, 9, 10, 11, 12] (left N vs0 []) (fun gg s2 s7 s9 s10 s11 s12 W => ∃ (l2 : List Hear) (vs : List Vis) (v : Vis) (tk : List Hear) (out : List Cal), left N vs tk ≤ gg ∧ ∃ S T : Nat → Prop, RAllAt w B et tg re bub can comp N f F W s7 s2 l2 vs v tk out S T)
  case atStart =>
    refine ⟨l, vs0, vis0, [], [], Nat.le_refl _, (fun k => (w0.heap.size ≤ k ∧ k ≠ B) ∧ k < w1.heap.size), (fun k => T0 k ∧ k < w.heap.size), ⟨R1, hl1, Own.nil _ _ _ _, fun k hk => ⟨hk.2, hk.1.2⟩, fun k hk => ?_, ⟨hB1, hBw⟩, hs1, ⟨Nat.le_of_eq hNn, Nat.zero_le _, by omega, by simp only [List.length_nil]; omega⟩, by rw [List.nil_append]; exact hF⟩⟩
    have := hk.2
    exact ⟨by omega, by omega⟩
  case round =>
    clear R1 hl1 hub hs1 hs0 hF hz0 hz1 hB1 hBw hB
    obtain ⟨l2, vs, v, tk, out, hg, S, T, HA⟩ := hrel
    obtain ⟨R, hl2, HO, hS, hT, hbs, hs, hlens, hF⟩ := HA
    obtain ⟨hln, htk, hlf, hol⟩ := hlens
    have cx := rnext_c R (fun h => (hS _ h).2 rfl) hl2 (fun h => (hT _ h).2 rfl) (by omega)
    have hNl := fun oc' vs' v' tk' h ho => less_next (N := N) (et := et) (vs := vs) (v := v) (oc := oc') (vs' := vs') (v' := v') (tk' := tk') hln htk h ho
    have hNx := fun oc' vs' v' tk' h => callsT_next (N := N) (f := f) (et := et) (vs := vs) (v := v) (oc := oc') (vs' := vs') (v' := v') (tk' := tk') hln htk hlf h
    generalize hN : nxt l2 et false vs v tk = Nx at cx
    obtain ⟨oc, vs', v', tk'⟩ := Nx
    replace hNl := hNl _ _ _ _ hN
    replace hNx := hNx _ _ _ _ hN
    dsimp only at cx
    rw [hNx] at hF
    have HF := Lib.hid hF
    clear hN hNx hF
    obtain ⟨Ao, co, rfl, _, _⟩ := HO.reads.form
    cases oc with
    | none =>
      simp only [Option.getD_none, Option.isSome_none, Cal.arr] at cx
      have HF2 := Lib.hid (show out = F by have h := HF.out; rwa [callsT, List.append_nil] at h)
      go_wp2_with (go_at_call 16; refine cx.mono ?_; rintro e w6 ⟨rfl, R6, hk6⟩)
      go_ret
      exact ⟨_, rfl, by rw [← HF2.out]; exact ((HO.kpt hk6 fun k hk _ e => hk.2.1 e).mono fun k hk _ => hk.1).stp ((Stp.refl w6).alloc _), (((Kpt.of_stp (O := fun _ => False) hs).trans hk6 fun x hx => .inr (by have h' : x = B := hx; omega)).stp fun x h => h.elim).alloc _⟩
    | some c =>
      obtain ⟨hl', htk'⟩ := hNl rfl
      simp only [Option.getD_some, Option.isSome_some, Cal.arr] at cx
      go_upto_region 6 with (go_at_call 16; refine cx.mono ?_; rintro e w6 ⟨rfl, R6, hk6⟩)
      obtain ⟨w7, hw7, hs7, hz7, hBc⟩ := rbox10 w6 (.int .i64 c.hear.node) (.int .i64 c.hear.type) (.bool c.hear.cap) (.bool c.hear.once) (.int .i64 c.hear.prog) (.int .i64 c.vis.stop.node) (.int .i64 c.vis.stop.target) (.int .i64 c.vis.stop.related) (.int .i64 c.vis.phase) (.bool c.vis.cap)
      try rw [hw7]
      have hz6 := hk6.size
      clear hw7 cx
      obtain ⟨S6, hS6⟩ : ∃ S6, (fun k => runS S wr k ∧ k < w6.heap.size) = S6 := ⟨_, rfl⟩
      have R6b := R6.bound
      rw [hS6] at R6b
      have hin6 : ∀ k, S6 k → k < w6.heap.size ∧ k ≠ B ∧ (S k ∨ wr.heap.size < k) := fun k hk => by
        rw [← hS6] at hk
        rcases hk.1 with h | h
        · exact ⟨hk.2, (hS k h.1).2, .inl h.1⟩
        · exact ⟨hk.2, by omega, .inr h⟩
      clear hS6 R6
      have HO7 : Own calK 46 (fun k => w.heap.size ≤ k ∧ k ≠ B ∧ k ≠ w6.heap.size ∧ ¬ S6 k ∧ ¬ T k) w7 (.slice Ao out.length co) out := ((HO.mono fun k hk hkl => ⟨hk.1, hk.2.1, by omega, fun h => by
        rcases (hin6 k h).2.2 with h | h
        · exact hk.2.2.1 h
        · omega, hk.2.2.2⟩).kpt hk6 fun k hk _ e => hk.2.1 e).stp hs7
      have hs67 : Stp w w7 := (((Kpt.of_stp (O := fun _ => False) hs).trans hk6 fun x hx => .inr (by have h' : x = B := hx; omega)).stp fun x h => h.elim).trans hs7
      have R7 := R6b.stp hs7
      have hl7 : Row hearK T w7 _ l2 := (hl2.kpt hk6 fun k hk _ e => (hT k hk).2 e).stp hs7
      have hfr : ∀ k, w7.heap.size ≤ k → w.heap.size ≤ k ∧ k ≠ B ∧ k ≠ w6.heap.size ∧ ¬ S6 k ∧ ¬ T k := fun k hk => ⟨Nat.le_trans hs67.size hk, by omega, by omega, fun h => by have := (hin6 k h).1; omega, fun h => by have := (hT k h).1; omega⟩
      have hlb : (out.length + 1) * 72 ≤ 140737488355328 := by omega
      have HN7 := Lib.hid (⟨hl', htk', hln, htk, hlf, hol⟩ : left N vs' tk' < left N vs tk ∧ tk'.length ≤ N ∧ l2.length ≤ N ∧ tk.length ≤ N ∧ left N vs tk < f ∧ out.length + left N vs tk ≤ f)
      have HZ7 := Lib.hid hz7
      clear HO R6b hl2 R hl' htk' hln htk hlf hol hNl hz7
      obtain ⟨d0, _⟩ := inB hBc 0 _ rfl
      obtain ⟨d1, _⟩ := inB hBc 1 _ rfl
      obtain ⟨d2, _⟩ := inB hBc 2 _ rfl
      obtain ⟨d3, _⟩ := inB hBc 3 _ rfl
      obtain ⟨d4, _⟩ := inB hBc 4 _ rfl
      obtain ⟨d5, _⟩ := inB hBc 5 _ rfl
      obtain ⟨d6, _⟩ := inB hBc 6 _ rfl
      obtain ⟨d7, _⟩ := inB hBc 7 _ rfl
      obtain ⟨d8, _⟩ := inB hBc 8 _ rfl
      obtain ⟨d9, _⟩ := inB hBc 9 _ rfl
      go_upto_region 9 with (at_builtin; go_loud (refine wpl_append1 (d := calK) (S := fun k => w.heap.size ≤ k ∧ k ≠ B ∧ k ≠ w6.heap.size ∧ ¬ S6 k ∧ ¬ T k) (T := fun _ => False) rfl (.tmp 28) (.tmp 30) 31 46 _ 72 rfl Tryz.underlying31 infoRC rfl (by decide) (by decide) (.slice Ao out.length co) out c [.int .i64 c.hear.node, .int .i64 c.hear.type, .bool c.hear.cap, .bool c.hear.once, .int .i64 c.hear.prog, .int .i64 c.vis.stop.node, .int .i64 c.vis.stop.target, .int .i64 c.vis.stop.related, .int .i64 c.vis.phase, .bool c.vis.cap] rfl rfl rfl (fun _ h => h.elim) HO7 hfr hlb ?_; intro v8 w8 ho8 hg8))
      have hkA : Kpt (fun k => w.heap.size ≤ k ∧ k ≠ B ∧ k ≠ w6.heap.size ∧ ¬ S6 k ∧ ¬ T k) w7 w8 := Kpt.of_grown hg8 HO7.blk
      have hz7 := HZ7.out
      have hz8 := hkA.size
      have R8 := R7.kpt hkA (fun h => h.2.1 rfl) (fun k hk _ h => h.2.2.2.1 hk)
      have hl8 := hl7.kpt hkA (fun k hk _ h => h.2.2.2.2 hk)
      have hBc8 := (hkA.block _ (Array.getElem?_eq_some_iff.1 hBc).1 (fun h => h.2.2.1 rfl)).trans hBc
      have hs8 : Stp w w8 := ((Kpt.of_stp (O := fun _ => False) hs67).trans hkA fun x hx => .inr hx.1).stp fun x h => h.elim
      clear d0 d1 d2 d3 d4 d5 d6 d7 d8 d9 hfr R7 hl7 HO7 hBc hg8 hkA hlb hs67
      obtain ⟨d0, _⟩ := inB hBc8 0 _ rfl
      obtain ⟨d1, _⟩ := inB hBc8 1 _ rfl
      obtain ⟨d2, _⟩ := inB hBc8 2 _ rfl
      obtain ⟨d3, _⟩ := inB hBc8 3 (.bool c.hear.once) rfl
      obtain ⟨d4, _⟩ := inB hBc8 4 _ rfl
      clear hBc8
      cases hon : c.hear.once with
      | false =>
        rw [hon] at d3
        have HF3 := Lib.hid (show (out ++ [c]) ++ allIn et f l2 vs' v' tk' = F by have h := HF.out; rw [callsT, if_neg (by simp [hon])] at h; rw [List.append_assoc]; exact h)
        clear hon
        go_wp2_with fail
        go_roundg (left N vs' tk')
        case measure => have := HN7.out.1; omega
        case rel =>
          obtain ⟨n1, n2, n3, n4, n5, n6⟩ := HN7.out
          refine ⟨l2, vs', v', tk', out ++ [c], Nat.le_refl _, S6, T, ⟨R8, hl8, ho8.mono fun k hk _ => ⟨hk.1, hk.2.1, hk.2.2.2.1, hk.2.2.2.2⟩, fun k hk => ⟨by have := (hin6 k hk).1; omega, (hin6 k hk).2.1⟩, fun k hk => ⟨by have := (hT k hk).1; omega, (hT k hk).2⟩, ⟨by omega, hbs.2⟩, hs8, ⟨n3, n2, by omega, by rw [List.length_append, List.length_singleton]; omega⟩, HF3.out⟩⟩
      | true =>
        have HF3 := Lib.hid (show (out ++ [c]) ++ allIn et f (hearDrop l2 c.hear) vs' v' tk' = F by have h := HF.out; rw [callsT, if_pos hon] at h; rw [List.append_assoc]; exact h)
        rw [hon] at d3
        have hll2 : l2.length ≤ 1000 := by have := HN7.out.2.2.1; omega
        have cd := H.rdrop_s hl8 hll2 c.hear
        simp only [Hear.val, hon] at cd
        clear hon
        go_wp2_with (go_at_call 17; refine cd.mono ?_; rintro e w9 ⟨u9, rfl, hl9, hb9⟩)
        go_roundg (left N vs' tk')
        case measure => have := HN7.out.1; omega
        case rel =>
          obtain ⟨n1, n2, n3, n4, n5, n6⟩ := HN7.out
          have hz9 := hb9.size
          have hdl := (drop_sub l2 c.hear).length_le
          refine ⟨hearDrop l2 c.hear, vs', v', tk', out ++ [c], Nat.le_refl _, S6, fun k => (T k ∨ w8.heap.size ≤ k) ∧ k < w9.heap.size, ⟨R8.stp hb9, hl9.bound, (ho8.mono fun k hk hkl => ⟨hk.1, hk.2.1, hk.2.2.2.1, fun h => h.1.elim hk.2.2.2.2 (fun h => by omega)⟩).stp hb9, fun k hk => ⟨by have := (hin6 k hk).1; omega, (hin6 k hk).2.1⟩, fun k hk => ⟨hk.2, ?_⟩, ⟨by omega, hbs.2⟩, hs8.trans hb9, ⟨by omega, n2, by omega, by rw [List.length_append, List.length_singleton]; omega⟩, HF3.out⟩⟩
          rcases hk.1 with h | h
          · exact (hT k h).2
          · omega
theorem rall_no {S0 : Nat → Prop} {w : World} {v0 : Value} {t : List Nd} (hr : Row nodeK S0 w v0 t) (u : Value) (et : Int) {tg : Int} (re : Int) (bub can comp : Bool) (ho : ¬ (mayT t = true ∧ isN t tg = true)) :
    Calls Tryz.prog 7 #[v0, .agg #[.int .i64 et, .int .i64 tg, .int .i64 re, .bool bub, .bool can, .bool comp], u] w fun e w' => e = .returned (.slice none 0 0) ∧ Stp w w' := by
  obtain ⟨A, cc, rfl, hc, hm⟩ := hr.form
  have cn := fun W (h : Stp w W) => rnew_no (hr.stp h) et re bub can comp ho
  have e0 := box_at w #[.int .i64 et, .int .i64 tg, .int .i64 re, .bool bub, .bool can, .bool comp] 25 0 _ rfl
  have e1 := box_at w #[.int .i64 et, .int .i64 tg, .int .i64 re, .bool bub, .bool can, .bool comp] 25 1 _ rfl
  have e2 := box_at w #[.int .i64 et, .int .i64 tg, .int .i64 re, .bool bub, .bool can, .bool comp] 25 2 _ rfl
  have e3 := box_at w #[.int .i64 et, .int .i64 tg, .int .i64 re, .bool bub, .bool can, .bool comp] 25 3 _ rfl
  have e4 := box_at w #[.int .i64 et, .int .i64 tg, .int .i64 re, .bool bub, .bool can, .bool comp] 25 4 _ rfl
  have e5 := box_at w #[.int .i64 et, .int .i64 tg, .int .i64 re, .bool bub, .bool can, .bool comp] 25 5 _ rfl
  go_enter Tryz.func7, Tryz.ntmps7
  go_wp2_with (go_at_call 15; refine (show Calls Tryz.prog 15 _ _ _ from cn _ Lime.stp_).mono ?_; rintro e w1 ⟨rfl, hb1⟩)
  go_ret
  exact ⟨rfl, by (exact Lime.stp_)⟩
end Go.Proofs.Lime
