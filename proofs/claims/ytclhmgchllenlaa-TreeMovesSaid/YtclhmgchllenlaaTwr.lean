/- Walk: what is wrong with a place. -/
import Derived.Test.YtclhmgchllenlaaTtk
namespace Go.Proofs.Lime
open Go.RowKit
set_option linter.unusedVariables false
set_option linter.unusedSimpArgs false
attribute [local go_sem] Oper.semAt_some
theorem in_e (w : World) (n a b : Int) : Calls Try.prog 28 #[.int .i64 n, .int .i64 a, .int .i64 b] w fun e w' => e = .returned (.bool (decide (a ≤ n) && decide (n ≤ b))) ∧ w' = w := by
  go_enter Try.func28, Try.ntmps28
  go_wp2
  all_goals
    go_ret
    exact ⟨ret_bool (by grind), rfl⟩
theorem isT_e {w : World} {A : Option Addr} {t : List Nd} {c : Nat} (n : Int) (hc : t.length ≤ c) (hm : t.length ≤ 9223372036854775807) : Calls Try.prog 32 #[.slice A t.length c, .int .i64 n] w fun e w' => e = .returned (.bool (isN t n)) ∧ w' = w := by
  go_enter Try.func32, Try.ntmps32
  go_wp2_with (go_at_call 28; refine (in_e _ _ _ _).mono ?_; rintro e w1 ⟨rfl, rfl⟩)
  go_ret
  exact ⟨ret_bool (by grind [isN]), rfl⟩
/-- What is wrong with a place. -/
def wrongR (t : List Nd) (p c b : Int) : Int :=
  if (isN t p && (isN t c && (b == -1 || isN t b))) = false then 2
  else if ((nd t p).kind == 2 || ((nd t c).kind == 0 || (nd t c).kind == 3)) = true then 3
  else if (upsT t p).contains c = true then 5
  else if (!(b == -1) && !((nd t b).parent == p)) = true then 2 else 0
/-- What is held between two rounds: Br: the result's cell. -/
structure WrSt (C : Nat → Prop) (Br : Nat) (w : World) (val : Int) (O : Nat → Prop) (W : World) : Prop where mk ::
  ob : O Br
  new : ∀ b, O b → b = Br ∨ w.heap.size ≤ b
  kp : Kpt (fun b => C b ∨ b = Br) w W
  box : Boxed W Br 26 (.int .i64 val)
theorem WrSt.abide {C : Nat → Prop} {Br : Nat} {w : World} {val : Int} {O : Nat → Prop} {A B : World} (h : WrSt C Br w val O A) (hk : Kpt (ItMay C w.heap.size O) A B) : WrSt C Br w val O B :=
  ⟨h.ob, h.new, h.kp.trans hk (fun x hx => hx.2.imp .inl id), Boxed.keep h.box hk (fun hb => hb.1 h.ob)⟩
set_option maxRecDepth 100000 in
set_option maxHeartbeats 4000000 in
theorem wrong_c {S : Nat → Prop} {w : World} {v : Value} {t : List Nd} (hr : Row nodeK S w v t) (hmy : mayT t = true) (p c b : Int) :
    Calls Try.prog 33 #[v, .agg #[.int .i64 p, .int .i64 c, .int .i64 b]] w fun e w' => e = .returned (.int .i64 (wrongR t p c b)) ∧ Stp w w' := by
  have hrb := hr.bound
  obtain ⟨A, cv, rfl, hc, hm⟩ := hr.form
  have eg := (enters_of Try.func64 (by kernel_rfl) rfl)
  obtain ⟨wa, hwa, hsa, hza, ga⟩ := box_named w #[.int .i64 p, .int .i64 c, .int .i64 b] 37
  obtain ⟨w0, hw0, hsb, hz0, bR⟩ := one_box wa 26 (.int .i64 0)
  rw [hza] at bR hz0
  have p0 := hsb.cell (ga 0 _ rfl)
  have p1 := hsb.cell (ga 1 _ rfl)
  have p2 := hsb.cell (ga 2 _ rfl)
  have cR := Boxed.cell bR
  have fR := Boxed.frozen bR
  have hs0 : Stp w w0 := hsa.trans hsb
  have HB := Lib.hid bR
  clear ga bR hsa hsb
  cases hip : isN t p with
  | false =>
    have HR := Lib.hid (show wrongR t p c b = 2 by rw [wrongR, hip]; rfl)
    refine (callsIn_wide (n := 0)).1 (callsIn_of_wp_marks Try.func33 rfl trivial (wpIn_wide.2 ?_) rfl); simp only [Try.ntmps33, List.size_toArray, List.length_cons, List.length_nil, Nat.reduceAdd, Nat.reduceSub, Array.replicate_succ, Array.replicate_zero, List.push_toArray, List.append_toArray, List.nil_append, List.cons_append]
    go_wp2_with (go_at_call 32; refine (isT_e _ hc hm).mono ?_; rintro e w2 ⟨rfl, rfl⟩)
    refine ⟨.int .i64 2, by simp [results, Try.results33, go_sem, World.cell?_setCell_same' _ _ _ (show (_ : Option Value).isSome = true by rw [cR]; rfl)], by rw [HR.out], ?_⟩
    exact hs0.setCell (by omega) _
  | true =>
    obtain ⟨pn, rfl, hpl⟩ := isN_nat hip
    have HIP := Lib.hid hip
    cases hic : isN t c with
    | false =>
      have HR := Lib.hid (show wrongR t pn c b = 2 by rw [wrongR, HIP.out, hic]; rfl)
      refine (callsIn_wide (n := 0)).1 (callsIn_of_wp_marks Try.func33 rfl trivial (wpIn_wide.2 ?_) rfl); simp only [Try.ntmps33, List.size_toArray, List.length_cons, List.length_nil, Nat.reduceAdd, Nat.reduceSub, Array.replicate_succ, Array.replicate_zero, List.push_toArray, List.append_toArray, List.nil_append, List.cons_append]
      go_wp2_with (go_at_call 32; refine (isT_e _ hc hm).mono ?_; rintro e w2 ⟨rfl, rfl⟩)
      refine ⟨.int .i64 2, by simp [results, Try.results33, go_sem, World.cell?_setCell_same' _ _ _ (show (_ : Option Value).isSome = true by rw [cR]; rfl)], by rw [HR.out], ?_⟩
      exact hs0.setCell (by omega) _
    | true =>
      obtain ⟨cn, rfl, hcl⟩ := isN_nat hic
      have HIC := Lib.hid hic
      by_cases hb1 : b = -1
      · subst hb1
        have hbz : ((-1 : Int) != -1) = false := rfl
        have HB1 := Lib.hid (show ((-1 : Int) == -1 || isN t (-1)) = true from rfl)
        have HB2 := Lib.hid (show (!((-1 : Int) == -1) && !((nd t (-1)).parent == (pn : Int))) = false from rfl)
        obtain ⟨b0, o0, rfl, _, hb0x, hat⟩ := tree_base hr (by omega)
        have Hb0 := Lib.hid hb0x
        clear hb0x
        obtain ⟨_, _, _, _, atp⟩ := hat pn hpl
        obtain ⟨_, _, _, _, atc⟩ := hat cn hcl
        have kp := atp.c0
        have kc := atc.c0
        have hpz : (pn : Int) < (t.length : Int) := by omega
        have hcz : (cn : Int) < (t.length : Int) := by omega
        replace kp := hs0.cell kp
        replace kc := hs0.cell kc
        have HDp := Lib.hid (nd_nat hpl)
        have HDc := Lib.hid (nd_nat hcl)
        have HAT := Lib.hid hat
        clear atp atc hat
        have HW := Lib.hid (show wrongR t pn cn (-1) = if ((nd t pn).kind == 2 || ((nd t cn).kind == 0 || (nd t cn).kind == 3)) = true then 3 else if (upsT t pn).contains (cn : Int) = true then 5 else if (!((-1) == -1) && !((nd t (-1)).parent == (pn : Int))) = true then 2 else 0 by rw [wrongR, HIP.out, HIC.out, HB1.out]; rfl)
        rw [HDp.out, HDc.out] at HW
        cases hk1 : (t[pn].kind == 2) with
        | true =>
          have HR := Lib.hid (show wrongR t pn cn (-1) = 3 by rw [HW.out, hk1]; rfl)
          refine (callsIn_wide (n := 0)).1 (callsIn_of_wp_marks Try.func33 rfl trivial (wpIn_wide.2 ?_) rfl); simp only [Try.ntmps33, List.size_toArray, List.length_cons, List.length_nil, Nat.reduceAdd, Nat.reduceSub, Array.replicate_succ, Array.replicate_zero, List.push_toArray, List.append_toArray, List.nil_append, List.cons_append]
          go_wp2_with (go_at_call 32; refine (isT_e _ hc hm).mono ?_; rintro e w2 ⟨rfl, rfl⟩)
          refine ⟨.int .i64 3, by simp [results, Try.results33, go_sem, World.cell?_setCell_same' _ _ _ (show (_ : Option Value).isSome = true by rw [cR]; rfl)], by rw [HR.out], ?_⟩
          exact hs0.setCell (by omega) _
        | false =>
          cases hk2 : (t[cn].kind == 0) with
          | true =>
            have HR := Lib.hid (show wrongR t pn cn (-1) = 3 by rw [HW.out, hk1, hk2]; rfl)
            refine (callsIn_wide (n := 0)).1 (callsIn_of_wp_marks Try.func33 rfl trivial (wpIn_wide.2 ?_) rfl); simp only [Try.ntmps33, List.size_toArray, List.length_cons, List.length_nil, Nat.reduceAdd, Nat.reduceSub, Array.replicate_succ, Array.replicate_zero, List.push_toArray, List.append_toArray, List.nil_append, List.cons_append]
            go_wp2_with (go_at_call 32; refine (isT_e _ hc hm).mono ?_; rintro e w2 ⟨rfl, rfl⟩)
            refine ⟨.int .i64 3, by simp [results, Try.results33, go_sem, World.cell?_setCell_same' _ _ _ (show (_ : Option Value).isSome = true by rw [cR]; rfl)], by rw [HR.out], ?_⟩
            exact hs0.setCell (by omega) _
          | false =>
            cases hk3 : (t[cn].kind == 3) with
            | true =>
              have HR := Lib.hid (show wrongR t pn cn (-1) = 3 by rw [HW.out, hk1, hk2, hk3]; rfl)
              refine (callsIn_wide (n := 0)).1 (callsIn_of_wp_marks Try.func33 rfl trivial (wpIn_wide.2 ?_) rfl); simp only [Try.ntmps33, List.size_toArray, List.length_cons, List.length_nil, Nat.reduceAdd, Nat.reduceSub, Array.replicate_succ, Array.replicate_zero, List.push_toArray, List.append_toArray, List.nil_append, List.cons_append]
              go_wp2_with (go_at_call 32; refine (isT_e _ hc hm).mono ?_; rintro e w2 ⟨rfl, rfl⟩)
              refine ⟨.int .i64 3, by simp [results, Try.results33, go_sem, World.cell?_setCell_same' _ _ _ (show (_ : Option Value).isSome = true by rw [cR]; rfl)], by rw [HR.out], ?_⟩
              exact hs0.setCell (by omega) _
            | false =>
              rw [hk1, hk2, hk3] at HW
              have HW2 := Lib.hid (show wrongR t pn cn (-1) = if (upsT t pn).contains (cn : Int) = true then 5 else if (!((-1) == -1) && !((nd t (-1)).parent == (pn : Int))) = true then 2 else 0 from HW.out)
              clear HW
              refine (callsIn_wide (n := 0)).1 (callsIn_of_wp_marks Try.func33 rfl trivial (wpIn_wide.2 ?_) rfl); simp only [Try.ntmps33, List.size_toArray, List.length_cons, List.length_nil, Nat.reduceAdd, Nat.reduceSub, Array.replicate_succ, Array.replicate_zero, List.push_toArray, List.append_toArray, List.nil_append, List.cons_append]
              go_wp2_with (first | (go_at_call 32; refine (isT_e _ hc hm).mono ?_; rintro e w2 ⟨rfl, rfl⟩) | (go_at_call 49; refine (tup_c _ _ _ _ _).mono ?_; rintro e w' ⟨rfl, rfl⟩))
              obtain ⟨w3, hw3, hs3, hz3, bT, bN⟩ := two_boxes w2 23 3 (.slice (some ⟨b0, o0, none⟩) t.length cv) (.int .i64 pn)
              rw [hz0] at bT bN hz3
              rw [hw3]
              have hz2 : w2.heap.size = w.heap.size + 1 + 1 := hz0
              have hst : Stp w w3 := hs0.trans hs3
              have hmm := hmy
              simp only [mayT, Bool.and_eq_true, decide_eq_true_eq] at hmm
              have hit := tup1_it (hrb.stp hst) hmm.1.2 hmm.2.1 hpl (Boxed.cell bT) bN (by omega) (fun b hb => by have := hb.2; omega)
              obtain ⟨xs, hxs⟩ : ∃ xs, upsT t pn = xs := ⟨_, rfl⟩
              rw [show chainIn (upN t) (t.length + 1) (pn : Int) = xs from hxs] at hit
              rw [hxs] at HW2
              have p1' := hs3.cell p1
              have p2' := hs3.cell p2
              have p0' := hs3.cell p0
              have bR3 := Boxed.stp HB.out hs3
              have hb0w : b0 < w.heap.size := Hb0.out
              clear hw3 hxs hmm p0 p1 p2 cR fR kp kc hk1 hk2 hk3 hip hic
              refine wp_range (gf := 64) rfl eg hit (fun _ => rfl) (fun b hb => by omega) (fun x => x = w.heap.size + 1) (fun x hx => ⟨by omega, fun h => by omega, fun h => h.elim (fun h => by have := h.2; omega) (fun h => by omega)⟩) (fun k O W => WrSt (· = w.heap.size + 1 + 1 + 1) (w.heap.size + 1) w3 0 O W ∧ ∀ x ∈ xs.take k, x ≠ (cn : Int)) (fun c k O W => c = .ret ∧ WrSt (· = w.heap.size + 1 + 1 + 1) (w.heap.size + 1) w3 5 O W ∧ (cn : Int) ∈ xs) (fun k O A B h hk => ⟨h.1.abide hk, h.2⟩) (fun c k O A B h hk => ⟨h.1, h.2.1.abide hk, h.2.2⟩) ⟨⟨rfl, fun b hb => .inl hb, Kpt.refl _ _, bR3⟩, by simp⟩ ?a1one ?hassignone ?hbodyone ?hdoneone ?hstopone
              case hassignone =>
                intro l x W K hK
                gi_wp2
                exact hK
              case hbodyone =>
                intro l k hk O W hI
                have c1 := hI.1.kp.cell (p := ⟨w.heap.size, 1, none⟩) (by show ¬ (w.heap.size = _ ∨ w.heap.size = _); omega) p1'
                have cR := Boxed.cell hI.1.box
                have fR := Boxed.frozen hI.1.box
                have HI := Lib.hid hI
                have HX := Lib.hid (List.take_succ_eq_append_getElem hk)
                have HM := Lib.hid (List.getElem_mem hk)
                clear hI
                generalize xs[k] = x at HX HM
                by_cases hx : x = (cn : Int)
                · subst hx
                  gi_wp2
                  have hkp : Kpt O W (W.setCell ⟨w.heap.size + 1, 0, none⟩ (.int .i64 5)) := Kpt.setCell W _ HI.out.1.ob
                  exact ⟨O, fun b hb => .inl hb, hkp, rfl, ⟨HI.out.1.ob, HI.out.1.new, HI.out.1.kp.trans hkp fun b hb => (HI.out.1.new b hb).imp .inr id, Boxed.set _ HI.out.1.box⟩, HM.out⟩
                · have hxz : (x == (cn : Int)) = false := by simpa using hx
                  have HN := Lib.hid hx
                  clear hx
                  gi_wp2
                  refine ⟨O, fun b hb => .inl hb, Kpt.refl _ _, HI.out.1, fun y hy => ?_⟩
                  rw [HX.out, List.mem_append] at hy
                  rcases hy with hy | hy
                  · exact HI.out.2 y hy
                  · rw [List.mem_singleton.1 hy]; exact HN.out
              case hstopone =>
                rintro D c k O W hD hn ⟨rfl, hI, hmem⟩ hWD
                have cR := Boxed.cell hI.box
                go_wp2
                have h2 : (W.putObj D (.deferred none)).cell? ⟨w.heap.size + 1, 0, none⟩ = some (.int .i64 5) := Boxed.cell (show Boxed _ _ 26 _ from (World.putObj_heap_other (by omega)).trans hI.box)
                refine leaves_mark hWD (v := .int .i64 5) (by simp [results, Try.results33, go_sem, h2]) ⟨by rw [HW2.out, if_pos (by simpa using hmem)], ?_⟩
                have hk1 : Kpt (fun b => w.heap.size ≤ b) w W := ((Kpt.of_stp (O := fun b => w.heap.size ≤ b) hst).trans hI.kp fun x hx => .inl (by omega))
                exact (hk1.trans (Kpt.put (O := fun b => b = D) _ _ rfl) fun x hx => .inl (by omega)).stp fun x hx => by omega
              case hdoneone =>
                intro D O W hD hn hI hWD
                have cR := Boxed.cell hI.1.box
                have fR := Boxed.frozen hI.1.box
                have q0 := hI.1.kp.cell (p := ⟨w.heap.size, 0, none⟩) (by show ¬ (w.heap.size = _ ∨ w.heap.size = _); omega) p0'
                have q2 := hI.1.kp.cell (p := ⟨w.heap.size, 2, none⟩) (by show ¬ (w.heap.size = _ ∨ w.heap.size = _); omega) p2'
                have hnm : ¬ xs.contains (cn : Int) = true := fun h => hI.2 _ (by rw [List.take_length]; simpa using h) rfl
                have HW3 := Lib.hid (HW2.out.trans (if_neg hnm))
                have hk1 : Kpt (fun b => w.heap.size ≤ b) w W := ((Kpt.of_stp (O := fun b => w.heap.size ≤ b) hst).trans hI.1.kp fun x hx => .inl (by omega))
                clear hnm
                go_upto_region 9 with fail
                refine wp_region_plan (Plan.calm 0 (Plan.calm 1 (Plan.calm 2 (Plan.calm 3 (Plan.calm 4 (Plan.calm 5 (Plan.calm 6 (Plan.calm 7 (Plan.calm 8 (Plan.calm 9 (Plan.calm 10 (Plan.calm 11 (Plan.calm 12 (Plan.calm 13 Plan.done)))))))))))))) (by kernel_rfl) (by kernel_rfl) (by kernel_rfl) ?_
                have hS : Stp W W.drew := (Stp.refl _).drew
                (first | (refine plan_calm (v := ?_) Lime.getop_ (by rfl) (fun W hW => ?_) ?_; rotate_left; (focus (exact Lime.calm_))) | (refine plan_calm_skip Lime.getop_ (by rfl) ?_)); (try simp only [Act.put, List.setIfInBounds_toArray, List.set_cons_zero, List.set_cons_succ])
                (first | (refine plan_calm (v := ?_) Lime.getop_ (by rfl) (fun W hW => ?_) ?_; rotate_left; (focus (have q0_ := (hS.trans hW).cell q0; have q1_ := (hS.trans hW).cell q2; clear hW; (exact Lime.calm_)))) | (refine plan_calm_skip Lime.getop_ (by rfl) ?_)); (try simp only [Act.put, List.setIfInBounds_toArray, List.set_cons_zero, List.set_cons_succ])
                iterate 4 ((first | (refine plan_calm (v := ?_) Lime.getop_ (by rfl) (fun W hW => ?_) ?_; rotate_left; (focus (exact Lime.calm_))) | (refine plan_calm_skip Lime.getop_ (by rfl) ?_)); (try simp only [Act.put, List.setIfInBounds_toArray, List.set_cons_zero, List.set_cons_succ]))
                (first | (refine plan_calm (v := ?_) Lime.getop_ (by rfl) (fun W hW => ?_) ?_; rotate_left; (focus (have q0_ := (hS.trans hW).cell q0; have q1_ := (hS.trans hW).cell q2; clear hW; (exact Lime.calm_)))) | (refine plan_calm_skip Lime.getop_ (by rfl) ?_)); (try simp only [Act.put, List.setIfInBounds_toArray, List.set_cons_zero, List.set_cons_succ])
                iterate 2 ((first | (refine plan_calm (v := ?_) Lime.getop_ (by rfl) (fun W hW => ?_) ?_; rotate_left; (focus (exact Lime.calm_))) | (refine plan_calm_skip Lime.getop_ (by rfl) ?_)); (try simp only [Act.put, List.setIfInBounds_toArray, List.set_cons_zero, List.set_cons_succ]))
                (first | (refine plan_calm (v := ?_) Lime.getop_ (by rfl) (fun W hW => ?_) ?_; rotate_left; (focus (have q0_ := (hS.trans hW).cell q0; have q1_ := (hS.trans hW).cell q2; clear hW; (exact Lime.calm_)))) | (refine plan_calm_skip Lime.getop_ (by rfl) ?_)); (try simp only [Act.put, List.setIfInBounds_toArray, List.set_cons_zero, List.set_cons_succ])
                (first | (refine plan_calm (v := ?_) Lime.getop_ (by rfl) (fun W hW => ?_) ?_; rotate_left; (focus (exact Lime.calm_))) | (refine plan_calm_skip Lime.getop_ (by rfl) ?_)); (try simp only [Act.put, List.setIfInBounds_toArray, List.set_cons_zero, List.set_cons_succ])
                (first | (refine plan_calm (v := ?_) Lime.getop_ (by rfl) (fun W hW => ?_) ?_; rotate_left; (focus (have q0_ := (hS.trans hW).cell q0; have q1_ := (hS.trans hW).cell q2; clear hW; (exact Lime.calm_)))) | (refine plan_calm_skip Lime.getop_ (by rfl) ?_)); (try simp only [Act.put, List.setIfInBounds_toArray, List.set_cons_zero, List.set_cons_succ])
                iterate 2 ((first | (refine plan_calm (v := ?_) Lime.getop_ (by rfl) (fun W hW => ?_) ?_; rotate_left; (focus (exact Lime.calm_))) | (refine plan_calm_skip Lime.getop_ (by rfl) ?_)); (try simp only [Act.put, List.setIfInBounds_toArray, List.set_cons_zero, List.set_cons_succ]))
                refine plan_done ?_
                obtain ⟨Wd, hWd⟩ : ∃ Wd, W.drew = Wd := ⟨_, rfl⟩
                have hsd : Stp W Wd := by rw [← hWd]; exact (Stp.refl W).drew
                rw [hWd]
                have hWD2 := hsd.heap hWD
                have hbx2 := Boxed.stp hI.1.box hsd
                replace cR := Boxed.cell hbx2
                replace fR := Boxed.frozen hbx2
                have hk2 : Kpt (fun b => w.heap.size ≤ b) w Wd := hk1.trans (Kpt.of_stp (O := fun b => w.heap.size ≤ b) hsd) fun x hx => .inl hx
                clear hWd hI
                go_wp2_with fail
                have h1 : (Wd.setCell ⟨w.heap.size + 1, 0, none⟩ (.int .i64 0)).heap[D]? = some (.deferred (some [])) := (Below.heap_setCell Wd ⟨w.heap.size + 1, 0, none⟩ (.int .i64 0) D (fun e => by have e' : D = w.heap.size + 1 := e; omega)).trans hWD2
                have h2 : ((Wd.setCell ⟨w.heap.size + 1, 0, none⟩ (.int .i64 0)).putObj D (.deferred none)).cell? ⟨w.heap.size + 1, 0, none⟩ = some (.int .i64 0) := Boxed.cell (show Boxed _ _ 26 _ from (World.putObj_heap_other (by omega)).trans (Boxed.set _ hbx2))
                refine leaves_mark h1 (v := .int .i64 0) (by simp [results, Try.results33, go_sem, h2]) ⟨by rw [HW3.out, HB2.out]; rfl, ?_⟩
                exact ((kpt_store hk2 (by omega)).trans (Kpt.put (O := fun b => b = D) _ _ rfl) fun x hx => .inl (by omega)).stp fun x hx => by omega
      · have hbz : (b != -1) = true := by simpa using hb1
        cases hib : isN t b with
        | false =>
          have HR := Lib.hid (show wrongR t pn cn b = 2 by rw [wrongR, HIP.out, HIC.out, hib, show (b == -1) = false by simpa using hb1]; rfl)
          clear hb1
          refine (callsIn_wide (n := 0)).1 (callsIn_of_wp_marks Try.func33 rfl trivial (wpIn_wide.2 ?_) rfl); simp only [Try.ntmps33, List.size_toArray, List.length_cons, List.length_nil, Nat.reduceAdd, Nat.reduceSub, Array.replicate_succ, Array.replicate_zero, List.push_toArray, List.append_toArray, List.nil_append, List.cons_append]
          go_wp2_with (go_at_call 32; refine (isT_e _ hc hm).mono ?_; rintro e w2 ⟨rfl, rfl⟩)
          refine ⟨.int .i64 2, by simp [results, Try.results33, go_sem, World.cell?_setCell_same' _ _ _ (show (_ : Option Value).isSome = true by rw [cR]; rfl)], by rw [HR.out], ?_⟩
          exact hs0.setCell (by omega) _
        | true =>
          obtain ⟨bn, rfl, hbl⟩ := isN_nat hib
          have HB1 := Lib.hid (show ((bn : Int) == -1 || isN t bn) = true by rw [hib, Bool.or_true])
          clear hb1
          obtain ⟨b0, o0, rfl, _, hb0x, hat⟩ := tree_base hr (by omega)
          have Hb0 := Lib.hid hb0x
          clear hb0x
          obtain ⟨_, _, _, _, atp⟩ := hat pn hpl
          obtain ⟨_, _, _, _, atc⟩ := hat cn hcl
          have kp := atp.c0
          have kc := atc.c0
          have hpz : (pn : Int) < (t.length : Int) := by omega
          have hcz : (cn : Int) < (t.length : Int) := by omega
          replace kp := hs0.cell kp
          replace kc := hs0.cell kc
          have HDp := Lib.hid (nd_nat hpl)
          have HDc := Lib.hid (nd_nat hcl)
          have HAT := Lib.hid hat
          clear atp atc hat
          have HW := Lib.hid (show wrongR t pn cn (bn : Int) = if ((nd t pn).kind == 2 || ((nd t cn).kind == 0 || (nd t cn).kind == 3)) = true then 3 else if (upsT t pn).contains (cn : Int) = true then 5 else if (!((bn : Int) == -1) && !((nd t (bn : Int)).parent == (pn : Int))) = true then 2 else 0 by rw [wrongR, HIP.out, HIC.out, HB1.out]; rfl)
          rw [HDp.out, HDc.out] at HW
          cases hk1 : (t[pn].kind == 2) with
          | true =>
            have HR := Lib.hid (show wrongR t pn cn (bn : Int) = 3 by rw [HW.out, hk1]; rfl)
            refine (callsIn_wide (n := 0)).1 (callsIn_of_wp_marks Try.func33 rfl trivial (wpIn_wide.2 ?_) rfl); simp only [Try.ntmps33, List.size_toArray, List.length_cons, List.length_nil, Nat.reduceAdd, Nat.reduceSub, Array.replicate_succ, Array.replicate_zero, List.push_toArray, List.append_toArray, List.nil_append, List.cons_append]
            go_wp2_with (go_at_call 32; refine (isT_e _ hc hm).mono ?_; rintro e w2 ⟨rfl, rfl⟩)
            refine ⟨.int .i64 3, by simp [results, Try.results33, go_sem, World.cell?_setCell_same' _ _ _ (show (_ : Option Value).isSome = true by rw [cR]; rfl)], by rw [HR.out], ?_⟩
            exact hs0.setCell (by omega) _
          | false =>
            cases hk2 : (t[cn].kind == 0) with
            | true =>
              have HR := Lib.hid (show wrongR t pn cn (bn : Int) = 3 by rw [HW.out, hk1, hk2]; rfl)
              refine (callsIn_wide (n := 0)).1 (callsIn_of_wp_marks Try.func33 rfl trivial (wpIn_wide.2 ?_) rfl); simp only [Try.ntmps33, List.size_toArray, List.length_cons, List.length_nil, Nat.reduceAdd, Nat.reduceSub, Array.replicate_succ, Array.replicate_zero, List.push_toArray, List.append_toArray, List.nil_append, List.cons_append]
              go_wp2_with (go_at_call 32; refine (isT_e _ hc hm).mono ?_; rintro e w2 ⟨rfl, rfl⟩)
              refine ⟨.int .i64 3, by simp [results, Try.results33, go_sem, World.cell?_setCell_same' _ _ _ (show (_ : Option Value).isSome = true by rw [cR]; rfl)], by rw [HR.out], ?_⟩
              exact hs0.setCell (by omega) _
            | false =>
              cases hk3 : (t[cn].kind == 3) with
              | true =>
                have HR := Lib.hid (show wrongR t pn cn (bn : Int) = 3 by rw [HW.out, hk1, hk2, hk3]; rfl)
                refine (callsIn_wide (n := 0)).1 (callsIn_of_wp_marks Try.func33 rfl trivial (wpIn_wide.2 ?_) rfl); simp only [Try.ntmps33, List.size_toArray, List.length_cons, List.length_nil, Nat.reduceAdd, Nat.reduceSub, Array.replicate_succ, Array.replicate_zero, List.push_toArray, List.append_toArray, List.nil_append, List.cons_append]
                go_wp2_with (go_at_call 32; refine (isT_e _ hc hm).mono ?_; rintro e w2 ⟨rfl, rfl⟩)
                refine ⟨.int .i64 3, by simp [results, Try.results33, go_sem, World.cell?_setCell_same' _ _ _ (show (_ : Option Value).isSome = true by rw [cR]; rfl)], by rw [HR.out], ?_⟩
                exact hs0.setCell (by omega) _
              | false =>
                rw [hk1, hk2, hk3] at HW
                have HW2 := Lib.hid (show wrongR t pn cn (bn : Int) = if (upsT t pn).contains (cn : Int) = true then 5 else if (!((bn : Int) == -1) && !((nd t (bn : Int)).parent == (pn : Int))) = true then 2 else 0 from HW.out)
                clear HW
                refine (callsIn_wide (n := 0)).1 (callsIn_of_wp_marks Try.func33 rfl trivial (wpIn_wide.2 ?_) rfl); simp only [Try.ntmps33, List.size_toArray, List.length_cons, List.length_nil, Nat.reduceAdd, Nat.reduceSub, Array.replicate_succ, Array.replicate_zero, List.push_toArray, List.append_toArray, List.nil_append, List.cons_append]
                go_wp2_with (first | (go_at_call 32; refine (isT_e _ hc hm).mono ?_; rintro e w2 ⟨rfl, rfl⟩) | (go_at_call 49; refine (tup_c _ _ _ _ _).mono ?_; rintro e w' ⟨rfl, rfl⟩))
                obtain ⟨w3, hw3, hs3, hz3, bT, bN⟩ := two_boxes w2 23 3 (.slice (some ⟨b0, o0, none⟩) t.length cv) (.int .i64 pn)
                rw [hz0] at bT bN hz3
                rw [hw3]
                have hz2 : w2.heap.size = w.heap.size + 1 + 1 := hz0
                have hst : Stp w w3 := hs0.trans hs3
                have hmm := hmy
                simp only [mayT, Bool.and_eq_true, decide_eq_true_eq] at hmm
                have hit := tup1_it (hrb.stp hst) hmm.1.2 hmm.2.1 hpl (Boxed.cell bT) bN (by omega) (fun b hb => by have := hb.2; omega)
                obtain ⟨xs, hxs⟩ : ∃ xs, upsT t pn = xs := ⟨_, rfl⟩
                rw [show chainIn (upN t) (t.length + 1) (pn : Int) = xs from hxs] at hit
                rw [hxs] at HW2
                have p1' := hs3.cell p1
                have p2' := hs3.cell p2
                have p0' := hs3.cell p0
                have bR3 := Boxed.stp HB.out hs3
                have hb0w : b0 < w.heap.size := Hb0.out
                clear hw3 hxs hmm p0 p1 p2 cR fR kp kc hk1 hk2 hk3 hip hic
                refine wp_range (gf := 64) rfl eg hit (fun _ => rfl) (fun b hb => by omega) (fun x => x = w.heap.size + 1) (fun x hx => ⟨by omega, fun h => by omega, fun h => h.elim (fun h => by have := h.2; omega) (fun h => by omega)⟩) (fun k O W => WrSt (· = w.heap.size + 1 + 1 + 1) (w.heap.size + 1) w3 0 O W ∧ ∀ x ∈ xs.take k, x ≠ (cn : Int)) (fun c k O W => c = .ret ∧ WrSt (· = w.heap.size + 1 + 1 + 1) (w.heap.size + 1) w3 5 O W ∧ (cn : Int) ∈ xs) (fun k O A B h hk => ⟨h.1.abide hk, h.2⟩) (fun c k O A B h hk => ⟨h.1, h.2.1.abide hk, h.2.2⟩) ⟨⟨rfl, fun b hb => .inl hb, Kpt.refl _ _, bR3⟩, by simp⟩ ?a1two ?hassigntwo ?hbodytwo ?hdonetwo ?hstoptwo
                case hassigntwo =>
                  intro l x W K hK
                  gi_wp2
                  exact hK
                case hbodytwo =>
                  intro l k hk O W hI
                  have c1 := hI.1.kp.cell (p := ⟨w.heap.size, 1, none⟩) (by show ¬ (w.heap.size = _ ∨ w.heap.size = _); omega) p1'
                  have cR := Boxed.cell hI.1.box
                  have fR := Boxed.frozen hI.1.box
                  have HI := Lib.hid hI
                  have HX := Lib.hid (List.take_succ_eq_append_getElem hk)
                  have HM := Lib.hid (List.getElem_mem hk)
                  clear hI
                  generalize xs[k] = x at HX HM
                  by_cases hx : x = (cn : Int)
                  · subst hx
                    gi_wp2
                    have hkp : Kpt O W (W.setCell ⟨w.heap.size + 1, 0, none⟩ (.int .i64 5)) := Kpt.setCell W _ HI.out.1.ob
                    exact ⟨O, fun b hb => .inl hb, hkp, rfl, ⟨HI.out.1.ob, HI.out.1.new, HI.out.1.kp.trans hkp fun b hb => (HI.out.1.new b hb).imp .inr id, Boxed.set _ HI.out.1.box⟩, HM.out⟩
                  · have hxz : (x == (cn : Int)) = false := by simpa using hx
                    have HN := Lib.hid hx
                    clear hx
                    gi_wp2
                    refine ⟨O, fun b hb => .inl hb, Kpt.refl _ _, HI.out.1, fun y hy => ?_⟩
                    rw [HX.out, List.mem_append] at hy
                    rcases hy with hy | hy
                    · exact HI.out.2 y hy
                    · rw [List.mem_singleton.1 hy]; exact HN.out
                case hstoptwo =>
                  rintro D c k O W hD hn ⟨rfl, hI, hmem⟩ hWD
                  have cR := Boxed.cell hI.box
                  go_wp2
                  have h2 : (W.putObj D (.deferred none)).cell? ⟨w.heap.size + 1, 0, none⟩ = some (.int .i64 5) := Boxed.cell (show Boxed _ _ 26 _ from (World.putObj_heap_other (by omega)).trans hI.box)
                  refine leaves_mark hWD (v := .int .i64 5) (by simp [results, Try.results33, go_sem, h2]) ⟨by rw [HW2.out, if_pos (by simpa using hmem)], ?_⟩
                  have hk1 : Kpt (fun b => w.heap.size ≤ b) w W := ((Kpt.of_stp (O := fun b => w.heap.size ≤ b) hst).trans hI.kp fun x hx => .inl (by omega))
                  exact (hk1.trans (Kpt.put (O := fun b => b = D) _ _ rfl) fun x hx => .inl (by omega)).stp fun x hx => by omega
                case hdonetwo =>
                  intro D O W hD hn hI hWD
                  have cR := Boxed.cell hI.1.box
                  have fR := Boxed.frozen hI.1.box
                  have q0 := hI.1.kp.cell (p := ⟨w.heap.size, 0, none⟩) (by show ¬ (w.heap.size = _ ∨ w.heap.size = _); omega) p0'
                  have q2 := hI.1.kp.cell (p := ⟨w.heap.size, 2, none⟩) (by show ¬ (w.heap.size = _ ∨ w.heap.size = _); omega) p2'
                  have hnm : ¬ xs.contains (cn : Int) = true := fun h => hI.2 _ (by rw [List.take_length]; simpa using h) rfl
                  have HW3 := Lib.hid (HW2.out.trans (if_neg hnm))
                  have hk1 : Kpt (fun b => w.heap.size ≤ b) w W := ((Kpt.of_stp (O := fun b => w.heap.size ≤ b) hst).trans hI.1.kp fun x hx => .inl (by omega))
                  clear hnm
                  obtain ⟨_, _, _, _, atb⟩ := HAT.out bn hbl
                  have kb := hI.1.kp.cell (p := ⟨b0, o0 + bn * 7 + 2, none⟩) (by show ¬ (b0 = _ ∨ b0 = _); omega) (hst.cell atb.c2)
                  have hbz2 : (bn : Int) < (t.length : Int) := by omega
                  clear atb
                  have HDb := Lib.hid (nd_nat hbl)
                  have hbn1 : ((bn : Int) == -1) = false := by simp
                  by_cases hpar : t[bn].parent = (pn : Int)
                  · rw [hpar] at kb
                    have HE := Lib.hid (show (!((bn : Int) == -1) && !((nd t bn).parent == (pn : Int))) = false by rw [HDb.out, hpar]; simp)
                    clear hpar hbn1
                    go_upto_region 9 with fail
                    refine wp_region_plan (Plan.calm 0 (Plan.calm 1 (Plan.calm 2 (Plan.calm 3 (Plan.calm 4 (Plan.calm 5 (Plan.calm 6 (Plan.calm 7 (Plan.calm 8 (Plan.calm 9 (Plan.calm 10 (Plan.calm 11 (Plan.calm 12 (Plan.calm 13 Plan.done)))))))))))))) (by kernel_rfl) (by kernel_rfl) (by kernel_rfl) ?_
                    have hS : Stp W W.drew := (Stp.refl _).drew
                    (first | (refine plan_calm (v := ?_) Lime.getop_ (by rfl) (fun W hW => ?_) ?_; rotate_left; (focus (exact Lime.calm_))) | (refine plan_calm_skip Lime.getop_ (by rfl) ?_)); (try simp only [Act.put, List.setIfInBounds_toArray, List.set_cons_zero, List.set_cons_succ])
                    (first | (refine plan_calm (v := ?_) Lime.getop_ (by rfl) (fun W hW => ?_) ?_; rotate_left; (focus (have q0_ := (hS.trans hW).cell q0; have q1_ := (hS.trans hW).cell q2; have q2_ := (hS.trans hW).cell kb; clear hW; (exact Lime.calm_)))) | (refine plan_calm_skip Lime.getop_ (by rfl) ?_)); (try simp only [Act.put, List.setIfInBounds_toArray, List.set_cons_zero, List.set_cons_succ])
                    iterate 4 ((first | (refine plan_calm (v := ?_) Lime.getop_ (by rfl) (fun W hW => ?_) ?_; rotate_left; (focus (exact Lime.calm_))) | (refine plan_calm_skip Lime.getop_ (by rfl) ?_)); (try simp only [Act.put, List.setIfInBounds_toArray, List.set_cons_zero, List.set_cons_succ]))
                    (first | (refine plan_calm (v := ?_) Lime.getop_ (by rfl) (fun W hW => ?_) ?_; rotate_left; (focus (have q0_ := (hS.trans hW).cell q0; have q1_ := (hS.trans hW).cell q2; have q2_ := (hS.trans hW).cell kb; clear hW; (exact Lime.calm_)))) | (refine plan_calm_skip Lime.getop_ (by rfl) ?_)); (try simp only [Act.put, List.setIfInBounds_toArray, List.set_cons_zero, List.set_cons_succ])
                    iterate 2 ((first | (refine plan_calm (v := ?_) Lime.getop_ (by rfl) (fun W hW => ?_) ?_; rotate_left; (focus (exact Lime.calm_))) | (refine plan_calm_skip Lime.getop_ (by rfl) ?_)); (try simp only [Act.put, List.setIfInBounds_toArray, List.set_cons_zero, List.set_cons_succ]))
                    (first | (refine plan_calm (v := ?_) Lime.getop_ (by rfl) (fun W hW => ?_) ?_; rotate_left; (focus (have q0_ := (hS.trans hW).cell q0; have q1_ := (hS.trans hW).cell q2; have q2_ := (hS.trans hW).cell kb; clear hW; (exact Lime.calm_)))) | (refine plan_calm_skip Lime.getop_ (by rfl) ?_)); (try simp only [Act.put, List.setIfInBounds_toArray, List.set_cons_zero, List.set_cons_succ])
                    (first | (refine plan_calm (v := ?_) Lime.getop_ (by rfl) (fun W hW => ?_) ?_; rotate_left; (focus (exact Lime.calm_))) | (refine plan_calm_skip Lime.getop_ (by rfl) ?_)); (try simp only [Act.put, List.setIfInBounds_toArray, List.set_cons_zero, List.set_cons_succ])
                    (first | (refine plan_calm (v := ?_) Lime.getop_ (by rfl) (fun W hW => ?_) ?_; rotate_left; (focus (have q0_ := (hS.trans hW).cell q0; have q1_ := (hS.trans hW).cell q2; have q2_ := (hS.trans hW).cell kb; clear hW; (exact Lime.calm_)))) | (refine plan_calm_skip Lime.getop_ (by rfl) ?_)); (try simp only [Act.put, List.setIfInBounds_toArray, List.set_cons_zero, List.set_cons_succ])
                    iterate 2 ((first | (refine plan_calm (v := ?_) Lime.getop_ (by rfl) (fun W hW => ?_) ?_; rotate_left; (focus (exact Lime.calm_))) | (refine plan_calm_skip Lime.getop_ (by rfl) ?_)); (try simp only [Act.put, List.setIfInBounds_toArray, List.set_cons_zero, List.set_cons_succ]))
                    refine plan_done ?_
                    obtain ⟨Wd, hWd⟩ : ∃ Wd, W.drew = Wd := ⟨_, rfl⟩
                    have hsd : Stp W Wd := by rw [← hWd]; exact (Stp.refl W).drew
                    rw [hWd]
                    have hWD2 := hsd.heap hWD
                    have hbx2 := Boxed.stp hI.1.box hsd
                    replace cR := Boxed.cell hbx2
                    replace fR := Boxed.frozen hbx2
                    have hk2 : Kpt (fun b => w.heap.size ≤ b) w Wd := hk1.trans (Kpt.of_stp (O := fun b => w.heap.size ≤ b) hsd) fun x hx => .inl hx
                    clear hWd hI
                    go_wp2_with fail
                    have h1 : (Wd.setCell ⟨w.heap.size + 1, 0, none⟩ (.int .i64 0)).heap[D]? = some (.deferred (some [])) := (Below.heap_setCell Wd ⟨w.heap.size + 1, 0, none⟩ (.int .i64 0) D (fun e => by have e' : D = w.heap.size + 1 := e; omega)).trans hWD2
                    have h2 : ((Wd.setCell ⟨w.heap.size + 1, 0, none⟩ (.int .i64 0)).putObj D (.deferred none)).cell? ⟨w.heap.size + 1, 0, none⟩ = some (.int .i64 0) := Boxed.cell (show Boxed _ _ 26 _ from (World.putObj_heap_other (by omega)).trans (Boxed.set _ hbx2))
                    refine leaves_mark h1 (v := .int .i64 0) (by simp [results, Try.results33, go_sem, h2]) ⟨by rw [HW3.out, HE.out]; rfl, ?_⟩
                    exact ((kpt_store hk2 (by omega)).trans (Kpt.put (O := fun b => b = D) _ _ rfl) fun x hx => .inl (by omega)).stp fun x hx => by omega
                  · have hpz : (t[bn].parent != (pn : Int)) = true := by simpa using hpar
                    have HE := Lib.hid (show (!((bn : Int) == -1) && !((nd t bn).parent == (pn : Int))) = true by rw [HDb.out, hbn1]; simpa using hpar)
                    clear hpar hbn1
                    go_upto_region 9 with fail
                    refine wp_region_plan (Plan.calm 0 (Plan.calm 1 (Plan.calm 2 (Plan.calm 3 (Plan.calm 4 (Plan.calm 5 (Plan.calm 6 (Plan.calm 7 (Plan.calm 8 (Plan.calm 9 (Plan.calm 10 (Plan.calm 11 (Plan.calm 12 (Plan.calm 13 Plan.done)))))))))))))) (by kernel_rfl) (by kernel_rfl) (by kernel_rfl) ?_
                    have hS : Stp W W.drew := (Stp.refl _).drew
                    (first | (refine plan_calm (v := ?_) Lime.getop_ (by rfl) (fun W hW => ?_) ?_; rotate_left; (focus (exact Lime.calm_))) | (refine plan_calm_skip Lime.getop_ (by rfl) ?_)); (try simp only [Act.put, List.setIfInBounds_toArray, List.set_cons_zero, List.set_cons_succ])
                    (first | (refine plan_calm (v := ?_) Lime.getop_ (by rfl) (fun W hW => ?_) ?_; rotate_left; (focus (have q0_ := (hS.trans hW).cell q0; have q1_ := (hS.trans hW).cell q2; have q2_ := (hS.trans hW).cell kb; clear hW; (exact Lime.calm_)))) | (refine plan_calm_skip Lime.getop_ (by rfl) ?_)); (try simp only [Act.put, List.setIfInBounds_toArray, List.set_cons_zero, List.set_cons_succ])
                    iterate 4 ((first | (refine plan_calm (v := ?_) Lime.getop_ (by rfl) (fun W hW => ?_) ?_; rotate_left; (focus (exact Lime.calm_))) | (refine plan_calm_skip Lime.getop_ (by rfl) ?_)); (try simp only [Act.put, List.setIfInBounds_toArray, List.set_cons_zero, List.set_cons_succ]))
                    (first | (refine plan_calm (v := ?_) Lime.getop_ (by rfl) (fun W hW => ?_) ?_; rotate_left; (focus (have q0_ := (hS.trans hW).cell q0; have q1_ := (hS.trans hW).cell q2; have q2_ := (hS.trans hW).cell kb; clear hW; (exact Lime.calm_)))) | (refine plan_calm_skip Lime.getop_ (by rfl) ?_)); (try simp only [Act.put, List.setIfInBounds_toArray, List.set_cons_zero, List.set_cons_succ])
                    iterate 2 ((first | (refine plan_calm (v := ?_) Lime.getop_ (by rfl) (fun W hW => ?_) ?_; rotate_left; (focus (exact Lime.calm_))) | (refine plan_calm_skip Lime.getop_ (by rfl) ?_)); (try simp only [Act.put, List.setIfInBounds_toArray, List.set_cons_zero, List.set_cons_succ]))
                    (first | (refine plan_calm (v := ?_) Lime.getop_ (by rfl) (fun W hW => ?_) ?_; rotate_left; (focus (have q0_ := (hS.trans hW).cell q0; have q1_ := (hS.trans hW).cell q2; have q2_ := (hS.trans hW).cell kb; clear hW; (exact Lime.calm_)))) | (refine plan_calm_skip Lime.getop_ (by rfl) ?_)); (try simp only [Act.put, List.setIfInBounds_toArray, List.set_cons_zero, List.set_cons_succ])
                    (first | (refine plan_calm (v := ?_) Lime.getop_ (by rfl) (fun W hW => ?_) ?_; rotate_left; (focus (exact Lime.calm_))) | (refine plan_calm_skip Lime.getop_ (by rfl) ?_)); (try simp only [Act.put, List.setIfInBounds_toArray, List.set_cons_zero, List.set_cons_succ])
                    (first | (refine plan_calm (v := ?_) Lime.getop_ (by rfl) (fun W hW => ?_) ?_; rotate_left; (focus (have q0_ := (hS.trans hW).cell q0; have q1_ := (hS.trans hW).cell q2; have q2_ := (hS.trans hW).cell kb; clear hW; (exact Lime.calm_)))) | (refine plan_calm_skip Lime.getop_ (by rfl) ?_)); (try simp only [Act.put, List.setIfInBounds_toArray, List.set_cons_zero, List.set_cons_succ])
                    iterate 2 ((first | (refine plan_calm (v := ?_) Lime.getop_ (by rfl) (fun W hW => ?_) ?_; rotate_left; (focus (exact Lime.calm_))) | (refine plan_calm_skip Lime.getop_ (by rfl) ?_)); (try simp only [Act.put, List.setIfInBounds_toArray, List.set_cons_zero, List.set_cons_succ]))
                    refine plan_done ?_
                    obtain ⟨Wd, hWd⟩ : ∃ Wd, W.drew = Wd := ⟨_, rfl⟩
                    have hsd : Stp W Wd := by rw [← hWd]; exact (Stp.refl W).drew
                    rw [hWd]
                    have hWD2 := hsd.heap hWD
                    have hbx2 := Boxed.stp hI.1.box hsd
                    replace cR := Boxed.cell hbx2
                    replace fR := Boxed.frozen hbx2
                    have hk2 : Kpt (fun b => w.heap.size ≤ b) w Wd := hk1.trans (Kpt.of_stp (O := fun b => w.heap.size ≤ b) hsd) fun x hx => .inl hx
                    clear hWd hI
                    go_wp2_with fail
                    have h1 : (Wd.setCell ⟨w.heap.size + 1, 0, none⟩ (.int .i64 2)).heap[D]? = some (.deferred (some [])) := (Below.heap_setCell Wd ⟨w.heap.size + 1, 0, none⟩ (.int .i64 2) D (fun e => by have e' : D = w.heap.size + 1 := e; omega)).trans hWD2
                    have h2 : ((Wd.setCell ⟨w.heap.size + 1, 0, none⟩ (.int .i64 2)).putObj D (.deferred none)).cell? ⟨w.heap.size + 1, 0, none⟩ = some (.int .i64 2) := Boxed.cell (show Boxed _ _ 26 _ from (World.putObj_heap_other (by omega)).trans (Boxed.set _ hbx2))
                    refine leaves_mark h1 (v := .int .i64 2) (by simp [results, Try.results33, go_sem, h2]) ⟨by rw [HW3.out, HE.out]; rfl, ?_⟩
                    exact ((kpt_store hk2 (by omega)).trans (Kpt.put (O := fun b => b = D) _ _ rfl) fun x hx => .inl (by omega)).stp fun x hx => by omega
end Go.Proofs.Lime
