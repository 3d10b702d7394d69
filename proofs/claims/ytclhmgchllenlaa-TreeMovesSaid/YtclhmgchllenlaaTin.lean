/- Walks: a child removed; a child inserted. -/
import Derived.Test.YtclhmgchllenlaaTwr
import Derived.Test.YtclhmgchllenlaaInl
namespace Go.Proofs.Lime
open Go.RowKit
set_option linter.unusedVariables false
set_option linter.unusedSimpArgs false
attribute [local go_sem] Oper.semAt_some
def rmR (t : List Nd) (c : Int) : List Nd × Int := if mayT t = false then ([], 1) else if isN t c = false then (t, 2) else if (nd t c).parent = -1 then (t, 3) else (takeT t c.toNat, 0)
def RmRet (v : Value) (t : List Nd) (R : List Nd × Int) (w : World) (e : Ending) (w' : World) : Prop := ∃ u, e = .returned (.tuple #[u, .int .i64 R.2]) ∧ TOut w w' v t u R.1 ∧ Stp w w'
theorem rmRet_same {v : Value} {t : List Nd} {R : List Nd × Int} {w w' : World} {k : Int} (h : R = (t, k)) (hs : Stp w w') : RmRet v t R w (.returned (.tuple #[v, .int .i64 k])) w' := by
  subst h; exact ⟨v, rfl, .inl ⟨rfl, rfl⟩, hs⟩
theorem rmRet_none {v : Value} {t : List Nd} {R : List Nd × Int} {w w' : World} (h : R = ([], 1)) (hs : Stp w w') : RmRet v t R w (.returned (.tuple #[.slice none 0 0, .int .i64 1])) w' := by
  subst h; exact ⟨_, rfl, .inr (Row.nil _ _ _), hs⟩
theorem rmRet_new {v : Value} {t r : List Nd} {R : List Nd × Int} {w w' : World} {u : Value} (h : R = (r, 0)) (hr : Row nodeK (fun k => w.heap.size ≤ k) w' u r) (hs : Stp w w') : RmRet v t R w (.returned (.tuple #[u, .int .i64 0])) w' := by
  subst h; exact ⟨_, rfl, .inr hr, hs⟩
theorem par_ok {t : List Nd} (hmy : mayT t = true) {n : Nat} (hn : n < t.length) : t[n].parent = -1 ∨ ∃ p : Nat, t[n].parent = p ∧ p < t.length := by
  have := (May.of hmy).par (isN_of hn)
  unfold parN at this
  rw [nd_nat hn] at this
  rcases this with h | ⟨h, _⟩
  · exact .inl h
  · exact .inr (isN_nat h)
set_option maxRecDepth 100000 in
set_option maxHeartbeats 4000000 in
theorem remove_c {S : Nat → Prop} {w : World} {v : Value} {t : List Nd} (hr : Row nodeK S w v t) (hok : okT t = true) (c : Int) :
    Calls Try.prog 20 #[v, .int .i64 c] w (RmRet v t (rmR t c) w) := by
  have hks : ∀ k (hk : k < t.length), t[k].kids.length ≤ 1000 := fun k hk => ((okT_iff.1 hok).2 _ (List.getElem_mem hk)).1
  have cm := fun W (h : Stp w W) => may_c (hr.stp h) hks
  have cc := fun W (h : Stp w W) => copy_c (hr.stp h) hok
  obtain ⟨A, cv, rfl, hc, hm⟩ := hr.form
  have HKS := Lib.hid hks
  clear hok hks
  cases hmy : mayT t with
  | false =>
    rw [hmy] at cm
    have HE := Lib.hid (show rmR t c = ([], 1) from if_pos hmy)
    clear hmy
    go_enter Try.func20, Try.ntmps20
    go_wp2_with (first | (go_at_call 29; refine (cm _ Lime.stp_).mono ?_; rintro e w1 ⟨rfl, hb1⟩; (try replace k2 := hb1.cell k2)) | (go_at_call 32; refine (isT_e _ hc hm).mono ?_; rintro e w0 ⟨rfl, rfl⟩))
    refine bodyPost_ret (results_tmp2 rfl _ _ _) rfl ?_
    exact rmRet_none HE.out Lime.stp_
  | true =>
    rw [hmy] at cm
    have HM := Lib.hid hmy
    clear hmy
    cases hn : isN t c with
    | false =>
      have HE := Lib.hid (show rmR t c = (t, 2) by rw [rmR, if_neg (by simp [HM.out]), if_pos hn])
      go_enter Try.func20, Try.ntmps20
      go_wp2_with (first | (go_at_call 29; refine (cm _ Lime.stp_).mono ?_; rintro e w1 ⟨rfl, hb1⟩; (try replace k2 := hb1.cell k2)) | (go_at_call 32; refine (isT_e _ hc hm).mono ?_; rintro e w0 ⟨rfl, rfl⟩))
      refine bodyPost_ret (results_tmp2 rfl _ _ _) rfl ?_
      exact rmRet_same HE.out Lime.stp_
    | true =>
      obtain ⟨n, rfl, hnl⟩ := isN_nat hn
      have HN := Lib.hid hn
      have HD := Lib.hid (nd_nat hnl)
      have hpar := par_ok HM.out hnl
      obtain ⟨b, o, rfl, _, _, hat⟩ := tree_base hr (by omega)
      obtain ⟨Ak, ck, Aa, ca, at0⟩ := hat n hnl
      have k2 := at0.c2
      have hnz : (n : Int) < (t.length : Int) := by omega
      clear at0 hat hr
      by_cases hp1 : t[n].parent = -1
      · rw [hp1] at k2
        have HE := Lib.hid (show rmR t n = (t, 3) by rw [rmR, if_neg (by simp [HM.out]), if_neg (by simp [HN.out]), HD.out, if_pos hp1])
        clear hp1 hpar
        go_enter Try.func20, Try.ntmps20
        go_wp2_with (first | (go_at_call 29; refine (cm _ Lime.stp_).mono ?_; rintro e w1 ⟨rfl, hb1⟩; (try replace k2 := hb1.cell k2)) | (go_at_call 32; refine (isT_e _ hc hm).mono ?_; rintro e w0 ⟨rfl, rfl⟩))
        refine bodyPost_ret (results_tmp2 rfl _ _ _) rfl ?_
        exact rmRet_same HE.out Lime.stp_
      · have hp1z : (t[n].parent == -1) = false := by simpa using hp1
        have HE := Lib.hid (show rmR t n = (takeT t n, 0) by rw [rmR, if_neg (by simp [HM.out]), if_neg (by simp [HN.out]), HD.out, if_neg hp1]; rfl)
        have HPar := Lib.hid hpar
        clear hp1 hpar
        go_enter Try.func20, Try.ntmps20
        go_upto_region 7 with (first | (go_at_call 29; refine (cm _ Lime.stp_).mono ?_; rintro e w1 ⟨rfl, hb1⟩; replace k2 := hb1.cell k2) | (go_at_call 32; refine (isT_e _ hc hm).mono ?_; rintro e w0 ⟨rfl, rfl⟩))
        clear k2
        go_upto_region 8 with (go_at_call 30; refine (cc _ Lime.stp_).mono ?_; rintro e w2 ⟨v2, rfl, L, G, hLx, hb2⟩)
        have hLl : L.length = t.length := by have := congrArg List.length hLx; simpa using this
        have hnL : n < L.length := by omega
        have hgx : ∀ i (h : i < L.length), L[i].x = t[i]'(by omega) := fun i h => by
          have h1 : (L.map Nv.x)[i]'(by simpa using h) = t[i]'(by omega) := by simp only [hLx]
          simpa using h1
        have ct := take_c G hnL (by rw [hgx n hnL]; simpa [hLl] using HPar.out) (fun i h => by rw [hgx i h]; have := HKS.out i (by omega); omega) hb2.size
        have HLx := Lib.hid hLx
        have HLl := Lib.hid hLl
        clear hgx hLx hLl hnL
        obtain ⟨A2, c2, rfl, _, _⟩ := G.out.reads.form
        go_wp2_with (go_at_call 34; refine ct.mono ?_; rintro e w3 ⟨⟨u3, rfl⟩, L3, hl3, G3, hm3, hk3⟩)
        refine bodyPost_ret (results_tmp2 rfl _ _ _) rfl ?_
        have hsw : Stp w w3 := ((Kpt.of_stp (O := fun _ => False) (Stp.trans Lime.stp_ hb2)).trans hk3 fun x hx => .inr (Nat.le_trans (Stp.size Lime.stp_) hx)).stp fun x h => h.elim
        have hr3 := G3.reads (by omega)
        rw [hm3, HLx.out] at hr3
        exact rmRet_new HE.out (hr3.mono fun k hk => Nat.le_trans (Stp.size Lime.stp_) hk) hsw
/-- A list, c put ahead of b (behind all, where b is not there). -/
def insAt (l : List Int) (b c : Int) : List Int := l.take (if idx (· == b) l < 0 then l.length else (idx (· == b) l).toNat) ++ c :: l.drop (if idx (· == b) l < 0 then l.length else (idx (· == b) l).toNat)
def insT (t : List Nd) (p c : Nat) (b : Int) : List Nd :=
  if b = c then t else
    let t2 := (takeT t c).set p (((takeT t c).getD p noNd).kidsTo (insAt ((takeT t c).getD p noNd).kids b c))
    t2.set c ((t2.getD c noNd).parTo p)
def insR (t : List Nd) (p c b : Int) : List Nd × Int := if mayT t = false then ([], 1) else if wrongR t p c b ≠ 0 then (t, wrongR t p c b) else (insT t p.toNat c.toNat b, 0)
theorem wrong_ok {t : List Nd} {p c b : Int} (h : wrongR t p c b = 0) : isN t p = true ∧ isN t c = true ∧ (b = -1 ∨ isN t b = true) := by
  unfold wrongR at h
  split at h
  · cases h
  · rename_i h1
    simp only [Bool.not_eq_false, Bool.and_eq_true, Bool.or_eq_true, beq_iff_eq] at h1
    exact h1
theorem outI_len (n : Int) (l : List Int) : (outI n l).length ≤ l.length := List.length_filter_le _ _
theorem takeT_kids {t : List Nd} {c i : Nat} {N : Nat} (h : ∀ k, (t.getD k noNd).kids.length ≤ N) : ((takeT t c).getD i noNd).kids.length ≤ N := by
  have key : ∀ (u : List Nd) (j : Nat) (x : Nd), (∀ k, (u.getD k noNd).kids.length ≤ N) → x.kids.length ≤ N → ∀ k, ((u.set j x).getD k noNd).kids.length ≤ N := fun u j x hu hx k => by
    rw [List.getD_eq_getElem?_getD, List.getElem?_set]
    split
    · split
      · exact hx
      · exact Nat.zero_le _
    · rw [← List.getD_eq_getElem?_getD]; exact hu k
  unfold takeT
  split
  · exact h i
  · refine key _ _ _ (key _ _ _ h ?_) ?_ i
    · exact Nat.le_trans (outI_len _ _) (h _)
    · exact key _ _ _ h (Nat.le_trans (outI_len _ _) (h _)) _
set_option maxRecDepth 100000 in
set_option maxHeartbeats 8000000 in
theorem insert_c {S : Nat → Prop} {w : World} {v : Value} {t : List Nd} (hr : Row nodeK S w v t) (hok : okT t = true) (p c b : Int) :
    Calls Try.prog 17 #[v, .agg #[.int .i64 p, .int .i64 c, .int .i64 b]] w (RmRet v t (insR t p c b) w) := by
  have hks : ∀ k (hk : k < t.length), t[k].kids.length ≤ 1000 := fun k hk => ((okT_iff.1 hok).2 _ (List.getElem_mem hk)).1
  have cm := fun W (h : Stp w W) => may_c (hr.stp h) hks
  have cc := fun W (h : Stp w W) => copy_c (hr.stp h) hok
  obtain ⟨A, cv, rfl, hc, hm⟩ := hr.form
  have HKS := Lib.hid hks
  clear hok hks
  obtain ⟨wa, hwa, hsa, hza, ga⟩ := box_named w #[.int .i64 p, .int .i64 c, .int .i64 b] 37
  have p0 := ga 0 _ rfl
  have p1 := ga 1 _ rfl
  have p2 := ga 2 _ rfl
  clear ga
  cases hmy : mayT t with
  | false =>
    rw [hmy] at cm
    have HE := Lib.hid (show insR t p c b = ([], 1) from if_pos hmy)
    clear hmy
    go_enter Try.func17, Try.ntmps17
    go_wp2_with (go_at_call 29; refine (cm _ Lime.stp_).mono ?_; rintro e w1 ⟨rfl, hb1⟩)
    refine bodyPost_ret (results_tmp2 rfl _ _ _) rfl ?_
    exact rmRet_none HE.out Lime.stp_
  | true =>
    rw [hmy] at cm
    have HM := Lib.hid hmy
    have cw := fun W (h : Stp w W) => wrong_c (hr.stp h) hmy p c b
    clear hmy
    by_cases hwr : wrongR t p c b = 0
    · rw [hwr] at cw
      have HE := Lib.hid (show insR t p c b = (insT t p.toNat c.toNat b, 0) by rw [insR, if_neg (by simp [HM.out]), if_neg (by simp [hwr])])
      obtain ⟨hp, hcN, _⟩ := wrong_ok hwr
      obtain ⟨pn, rfl, hpl⟩ := isN_nat hp
      obtain ⟨cn, rfl, hcl⟩ := isN_nat hcN
      have hpar := par_ok HM.out hcl
      clear hwr hp hcN hr
      by_cases hbc : b = (cn : Int)
      · subst hbc
        have HE2 := Lib.hid (show insR t pn cn cn = (t, 0) by rw [HE.out]; simp [insT])
        clear HE
        go_enter Try.func17, Try.ntmps17
        go_wp2_with (first | (go_at_call 29; refine (cm _ Lime.stp_).mono ?_; rintro e w1 ⟨rfl, hb1⟩; replace p0 := hb1.cell p0; replace p1 := hb1.cell p1; replace p2 := hb1.cell p2) | (go_at_call 33; refine (cw _ Lime.stp_).mono ?_; rintro e w2 ⟨rfl, hb2⟩) | (go_at_call 30; refine (cc _ Lime.stp_).mono ?_; rintro e w3 ⟨v3, rfl, L, G, hLx, hb3⟩; replace p0 := hb3.cell (hb2.cell p0); replace p1 := hb3.cell (hb2.cell p1); replace p2 := hb3.cell (hb2.cell p2)))
        refine bodyPost_ret (results_tmp2 rfl _ _ _) rfl ?_
        have hr3 := G.reads (Nat.le_refl _)
        rw [hLx] at hr3
        exact rmRet_new HE2.out (hr3.mono fun k hk => Nat.le_trans (Stp.size Lime.stp_) hk) Lime.stp_
      · have hbcz : (b == (cn : Int)) = false := by simpa using hbc
        have HBC := Lib.hid hbc
        have HPar := Lib.hid hpar
        clear hbc hpar
        go_enter Try.func17, Try.ntmps17
        go_upto_region 7 with (first | (go_at_call 29; refine (cm _ Lime.stp_).mono ?_; rintro e w1 ⟨rfl, hb1⟩; replace p0 := hb1.cell p0; replace p1 := hb1.cell p1; replace p2 := hb1.cell p2) | (go_at_call 33; refine (cw _ Lime.stp_).mono ?_; rintro e w2 ⟨rfl, hb2⟩) | (go_at_call 30; refine (cc _ Lime.stp_).mono ?_; rintro e w3 ⟨v3, rfl, L, G, hLx, hb3⟩; replace p0 := hb3.cell (hb2.cell p0); replace p1 := hb3.cell (hb2.cell p1); replace p2 := hb3.cell (hb2.cell p2)))
        have hsw2 : Stp w w2 := by (exact Lime.stp_)
        have hLl : L.length = t.length := by have := congrArg List.length hLx; simpa using this
        have hgx : ∀ i (h : i < L.length), L[i].x = t[i]'(by omega) := fun i h => by
          have h1 : (L.map Nv.x)[i]'(by simpa using h) = t[i]'(by omega) := by simp only [hLx]
          simpa using h1
        have hcL : cn < L.length := by omega
        have ct := take_c G hcL (by rw [hgx cn hcL]; simpa [hLl] using HPar.out) (fun i h => by rw [hgx i h]; have := HKS.out i (by omega); omega) hb3.size
        have HLx := Lib.hid hLx
        have HLl := Lib.hid hLl
        have HCL := Lib.hid hcL
        have hz3 := hb3.size
        have hz2 := hsw2.size
        have hwa2 : w.heap.size + 1 ≤ w2.heap.size := by rw [← hza]; exact Stp.size (hb1.trans hb2)
        clear hgx hLx hLl hcL
        obtain ⟨A2, c2, rfl, _, _⟩ := G.out.reads.form
        go_upto_region 10 with (go_at_call 34; refine ct.mono ?_; rintro e w4 ⟨⟨u4, rfl⟩, L4, hl4, G4, hm4, hk4⟩)
        have hsw4 : Stp w w4 := ((Kpt.of_stp (O := fun _ => False) (hsw2.trans hb3)).trans hk4 fun x hx => .inr (by omega)).stp fun x h => h.elim
        have q0 := hk4.cell (p := ⟨w.heap.size, 0, none⟩) (by show ¬ w2.heap.size ≤ w.heap.size; omega) p0
        have q1 := hk4.cell (p := ⟨w.heap.size, 1, none⟩) (by show ¬ w2.heap.size ≤ w.heap.size; omega) p1
        have q2 := hk4.cell (p := ⟨w.heap.size, 2, none⟩) (by show ¬ w2.heap.size ≤ w.heap.size; omega) p2
        have hz4 := hk4.size
        have hpL : pn < L4.length := by rw [hl4, HLl.out]; exact hpl
        have hcL : cn < L4.length := by rw [hl4, HLl.out]; exact hcl
        rw [HLx.out] at hm4
        rw [← hl4] at G4
        have HL4 := Lib.hid (hl4.trans HLl.out)
        have hn2 : L.length = L4.length := hl4.symm
        clear p0 p1 p2 ct G hl4
        obtain ⟨g, cg, hv, hob, hgb, hgl, hgc, hg63, ⟨cur, hcur, hcu⟩, hat⟩ := G4.out.at7 (Nat.lt_of_le_of_lt (Nat.zero_le cn) hcL)
        obtain ⟨rfl, rfl⟩ : A2 = some ⟨g, 0, none⟩ ∧ c2 = cg := by injection hv with h1 h2 h3; exact ⟨h1, h3⟩
        have hgb' : w2.heap.size ≤ g := hgb
        (try rw [hn2])
        have G4' := G4
        clear G4 hn2 hv
        obtain ⟨y, hy⟩ : ∃ y, L4[pn]'hpL = y := ⟨_, rfl⟩
        obtain ⟨yx, ⟨ka, kn, kc⟩, yav⟩ := y
        have hatp := hat pn hpL
        rw [hy] at hatp
        have k3 := hatp.c3
        simp only [SV.val] at k3
        have q3 := hcu pn hpL 3 (.slice ka kn kc) (by omega) (by rw [hy]; rfl)
        obtain ⟨q4v, q4⟩ : ∃ u, cur[cn * 7 + 2]? = some u := ⟨_, hcu cn hcL 2 _ (by omega) rfl⟩
        have hpz : (pn : Int) < (L4.length : Int) := by omega
        have hcz : (cn : Int) < (L4.length : Int) := by omega
        have hin := (G4'.kid pn hpL hpL).tight
        have hib := (G4'.kid pn hpL hpL).blk
        rw [hy] at hin hib
        have hkx : yx = (takeT t cn).getD pn noNd := by rw [← hm4, getD_x hpL, hy]
        have hkl : yx.kids.length ≤ 1000 := by
          rw [hkx]
          exact takeT_kids fun k => by
            by_cases hk : k < t.length
            · have := HKS.out k hk; simpa [hk] using this
            · simp [hk]
        have HX := Lib.hid hkx
        have HM4 := Lib.hid hm4
        have HG := Lib.hid G4'
        have HIB := Lib.hid hib
        have HPo : ¬ (Value.slice ka kn kc).ownBlock = some w.heap.size := fun e => by have := (hib _ e).1; omega
        have HGo : ¬ (Value.slice ka kn kc).ownBlock = some g := fun e => (hib g e).2 rfl
        simp only [SV.val] at hin
        generalize hxs : yx.kids = xs at hin hkl
        have HXS := Lib.hid hxs
        have HPh := Lib.hid HPo
        have HGh := Lib.hid HGo
        have HY := Lib.hid hy
        clear hcu hat hm4 G4' hib HPo HGo hkx hxs hk4 hgc hb1 hb2 hb3 hsa hwa hatp hy
        have ci := fun W (h : Stp w4 W) => index_c (hin.reads.stp h) b
        obtain ⟨Ak, ck, ekv, hkc, hkm⟩ := hin.reads.form
        injection ekv with ea en ec
        subst ea en ec
        refine wp_region_plan (Plan.calm 0 (Plan.calm 1 (Plan.calm 2 (Plan.calm 3 (Plan.calm 4 (Plan.calm 5 (Plan.calm 6 (Plan.calm 7 (Plan.alt 8 (Plan.calm 9 Plan.done) Plan.stop))))))))) (by kernel_rfl) (by kernel_rfl) (by kernel_rfl) ?_
        have hS : Stp w4 w4.drew := (Stp.refl _).drew
        iterate 2 ((first | (refine plan_calm (v := ?_) Lime.getop_ (by rfl) (fun W hW => ?_) ?_; rotate_left; (focus (exact Lime.calm_))) | (refine plan_calm_skip Lime.getop_ (by rfl) ?_)); (try simp only [Act.put, List.setIfInBounds_toArray, List.set_cons_zero, List.set_cons_succ]))
        (first | (refine plan_calm (v := ?_) Lime.getop_ (by rfl) (fun W hW => ?_) ?_; rotate_left; (focus (have q0_ := (hS.trans hW).cell q0; have q1_ := (hS.trans hW).cell q2; have q2_ := (hS.trans hW).cell k3; clear hW; (exact Lime.calm_)))) | (refine plan_calm_skip Lime.getop_ (by rfl) ?_)); (try simp only [Act.put, List.setIfInBounds_toArray, List.set_cons_zero, List.set_cons_succ])
        iterate 2 ((first | (refine plan_calm (v := ?_) Lime.getop_ (by rfl) (fun W hW => ?_) ?_; rotate_left; (focus (exact Lime.calm_))) | (refine plan_calm_skip Lime.getop_ (by rfl) ?_)); (try simp only [Act.put, List.setIfInBounds_toArray, List.set_cons_zero, List.set_cons_succ]))
        (first | (refine plan_calm (v := ?_) Lime.getop_ (by rfl) (fun W hW => ?_) ?_; rotate_left; (focus (have q0_ := (hS.trans hW).cell q0; have q1_ := (hS.trans hW).cell q2; have q2_ := (hS.trans hW).cell k3; clear hW; (exact Lime.calm_)))) | (refine plan_calm_skip Lime.getop_ (by rfl) ?_)); (try simp only [Act.put, List.setIfInBounds_toArray, List.set_cons_zero, List.set_cons_succ])
        (first | (refine plan_calm (v := ?_) Lime.getop_ (by rfl) (fun W hW => ?_) ?_; rotate_left; (focus (exact Lime.calm_))) | (refine plan_calm_skip Lime.getop_ (by rfl) ?_)); (try simp only [Act.put, List.setIfInBounds_toArray, List.set_cons_zero, List.set_cons_succ])
        (first | (refine plan_calm (v := ?_) Lime.getop_ (by rfl) (fun W hW => ?_) ?_; rotate_left; (focus (have q0_ := (hS.trans hW).cell q0; have q1_ := (hS.trans hW).cell q2; have q2_ := (hS.trans hW).cell k3; clear hW; (exact Lime.calm_)))) | (refine plan_calm_skip Lime.getop_ (by rfl) ?_)); (try simp only [Act.put, List.setIfInBounds_toArray, List.set_cons_zero, List.set_cons_succ])
        (first | (refine plan_event Lime.getop_ (by rfl) (fun K hK => ?_) plan_stop; go_simp; refine (show Calls Try.prog 35 _ _ _ from ci _ Lime.stp_).mono ?_; rintro e w5 ⟨rfl, hb5⟩; refine hK _ _ ?_ (fun hst => ?_); (focus (exact Lime.stp_)); replace hS := hS.trans hst; clear hst hK K) | refine plan_event_skip Lime.getop_ (by rfl) ?_ plan_stop); (try simp only [Act.put, List.setIfInBounds_toArray, List.set_cons_zero, List.set_cons_succ])
        (first | (refine plan_calm (v := ?_) Lime.getop_ (by rfl) (fun W hW => ?_) ?_; rotate_left; (focus (exact Lime.calm_))) | (refine plan_calm_skip Lime.getop_ (by rfl) ?_)); (try simp only [Act.put, List.setIfInBounds_toArray, List.set_cons_zero, List.set_cons_succ])
        refine plan_done ?_
        have hsw5 : Stp w w5 := hsw4.trans hS
        have HG5 := Lib.hid (HG.out.stp hS)
        replace q0 := hS.cell q0
        replace q1 := hS.cell q1
        replace q2 := hS.cell q2
        replace k3 := hS.cell k3
        have hcur5 := hS.heap hcur
        have hin5 := hin.stp hS
        have hz5 := hS.size
        clear hcur hin ci hb5
        by_cases hi0 : idx (· == b) xs < 0
        · have HIA := Lib.hid (show insAt xs b cn = xs.take xs.length ++ (cn : Int) :: xs.drop xs.length by simp only [insAt, if_pos hi0])
          go_upto_region 13 with fail
          clear hi0
          have HVB : (Value.slice ka xs.length kc).ownBlock ≠ some w5.heap.size := fun e => by have := own_lt (own_ints hin5) _ e; omega
          refine wp_region_noPanic ?_
          refine Go.Proofs.YtclhmgchllenlaaW.PrintLast.start_ (n := 17) (S := fun W_ => Kpt (fun j => (Value.slice ka xs.length kc).ownBlock = some j) w5 W_) (ds := [16]) #[false, false, false, false, false, false, false, false, false, false, false, false, false, false, false, false, false] (by kernel_rfl) rfl (by kernel_rfl) (kpt_drew (Kpt.refl _ _)) (fun hS => ?_)
          refine Go.Proofs.YtclhmgchllenlaaW.PrintLast.pure_ (i := 0) (v := ?_) (a' := ?_) #[true, false, false, false, false, false, false, false, false, false, false, false, false, false, false, false, false] Lime.getop_ rfl (by kernel_rfl) (fun _ _ _ h => h) (Or.inl ⟨by rfl, ?_⟩) ?_ ?_
          rotate_left
          focus (intro w_; (exact Lime.calm_))
          rotate_left
          focus (simp only [Act.put, List.setIfInBounds_toArray, List.set_cons_zero, List.set_cons_succ]; first | done | rfl)
          refine Go.Proofs.YtclhmgchllenlaaW.PrintLast.pure_ (i := 1) (v := ?_) (a' := ?_) #[true, true, false, false, false, false, false, false, false, false, false, false, false, false, false, false, false] Lime.getop_ rfl (by kernel_rfl) (fun _ _ _ h => h) (Or.inl ⟨by rfl, ?_⟩) ?_ ?_
          rotate_left
          focus (intro w_; (exact Lime.calm_))
          rotate_left
          focus (simp only [Act.put, List.setIfInBounds_toArray, List.set_cons_zero, List.set_cons_succ]; first | done | rfl)
          refine Go.Proofs.YtclhmgchllenlaaW.PrintLast.pure_ (i := 3) (v := ?_) (a' := ?_) #[true, true, false, true, false, false, false, false, false, false, false, false, false, false, false, false, false] Lime.getop_ rfl (by kernel_rfl) (fun _ _ _ h => h) (Or.inl ⟨by rfl, ?_⟩) ?_ ?_
          rotate_left
          focus (intro w_; (exact Lime.calm_))
          rotate_left
          focus (simp only [Act.put, List.setIfInBounds_toArray, List.set_cons_zero, List.set_cons_succ]; first | done | rfl)
          refine Go.Proofs.YtclhmgchllenlaaW.PrintLast.pure_ (i := 4) (v := ?_) (a' := ?_) #[true, true, false, true, true, false, false, false, false, false, false, false, false, false, false, false, false] Lime.getop_ rfl (by kernel_rfl) (fun _ _ _ h => h) (Or.inl ⟨by rfl, ?_⟩) ?_ ?_
          rotate_left
          focus (intro w_; (exact Lime.calm_))
          rotate_left
          focus (simp only [Act.put, List.setIfInBounds_toArray, List.set_cons_zero, List.set_cons_succ]; first | done | rfl)
          refine Go.Proofs.YtclhmgchllenlaaW.PrintLast.pure_ (i := 9) (v := ?_) (a' := ?_) #[true, true, false, true, true, false, false, false, false, true, false, false, false, false, false, false, false] Lime.getop_ rfl (by kernel_rfl) (fun _ _ _ h => h) (Or.inl ⟨by rfl, ?_⟩) ?_ ?_
          rotate_left
          focus (intro w_; (exact Lime.calm_))
          rotate_left
          focus (simp only [Act.put, List.setIfInBounds_toArray, List.set_cons_zero, List.set_cons_succ]; first | done | rfl)
          refine Go.Proofs.YtclhmgchllenlaaW.PrintLast.pure_ (i := 10) (v := ?_) (a' := ?_) #[true, true, false, true, true, false, false, false, false, true, true, false, false, false, false, false, false] Lime.getop_ rfl (by kernel_rfl) (fun _ _ _ h => h) (Or.inl ⟨by rfl, ?_⟩) ?_ ?_
          rotate_left
          focus (intro w_; (exact Lime.calm_))
          rotate_left
          focus (simp only [Act.put, List.setIfInBounds_toArray, List.set_cons_zero, List.set_cons_succ]; first | done | rfl)
          refine Go.Proofs.YtclhmgchllenlaaW.PrintLast.take_ (i := 2) (v := ?_) (a' := ?_) #[true, true, true, true, true, false, false, false, false, true, true, false, false, false, false, false, false] Lime.getop_ rfl (by kernel_rfl) (fun _ _ _ h => h) (Or.inl ⟨by rfl, ?_⟩) hS ?_ ?_
          rotate_left
          focus (intro w_ hw_; have q0_ := hw_.cell (p := ⟨w.heap.size, 0, none⟩) HPh.out q0; have q1_ := hw_.cell (p := ⟨w.heap.size, 1, none⟩) HPh.out q1; have q2_ := hw_.cell (p := ⟨g, pn * 7 + 3, none⟩) HGh.out k3; (exact Lime.calm_))
          rotate_left
          focus (simp only [Act.put, List.setIfInBounds_toArray, List.set_cons_zero, List.set_cons_succ]; first | done | rfl)
          refine Go.Proofs.YtclhmgchllenlaaW.PrintLast.take_ (i := 5) (v := ?_) (a' := ?_) #[true, true, true, true, true, true, false, false, false, true, true, false, false, false, false, false, false] Lime.getop_ rfl (by kernel_rfl) (fun _ _ _ h => h) (Or.inl ⟨by rfl, ?_⟩) hS ?_ ?_
          rotate_left
          focus (intro w_ hw_; have q0_ := hw_.cell (p := ⟨w.heap.size, 0, none⟩) HPh.out q0; have q1_ := hw_.cell (p := ⟨w.heap.size, 1, none⟩) HPh.out q1; have q2_ := hw_.cell (p := ⟨g, pn * 7 + 3, none⟩) HGh.out k3; (exact Lime.calm_))
          rotate_left
          focus (simp only [Act.put, List.setIfInBounds_toArray, List.set_cons_zero, List.set_cons_succ]; first | done | rfl)
          refine Go.Proofs.YtclhmgchllenlaaW.PrintLast.pure_ (i := 6) (v := ?_) (a' := ?_) #[true, true, true, true, true, true, true, false, false, true, true, false, false, false, false, false, false] Lime.getop_ rfl (by kernel_rfl) (fun _ _ _ h => h) (Or.inl ⟨by rfl, ?_⟩) ?_ ?_
          rotate_left
          focus (intro w_; (exact Lime.calm_))
          rotate_left
          focus (simp only [Act.put, List.setIfInBounds_toArray, List.set_cons_zero, List.set_cons_succ]; first | done | rfl)
          refine Go.Proofs.YtclhmgchllenlaaW.PrintLast.pure_ (i := 7) (v := ?_) (a' := ?_) #[true, true, true, true, true, true, true, true, false, true, true, false, false, false, false, false, false] Lime.getop_ rfl (by kernel_rfl) (fun _ _ _ h => h) (Or.inl ⟨by rfl, ?_⟩) ?_ ?_
          rotate_left
          focus (intro w_; (exact Lime.calm_))
          rotate_left
          focus (simp only [Act.put, List.setIfInBounds_toArray, List.set_cons_zero, List.set_cons_succ]; first | done | rfl)
          refine Go.Proofs.YtclhmgchllenlaaW.PrintLast.take_ (i := 8) (v := ?_) (a' := ?_) #[true, true, true, true, true, true, true, true, true, true, true, false, false, false, false, false, false] Lime.getop_ rfl (by kernel_rfl) (fun _ _ _ h => h) (Or.inl ⟨by rfl, ?_⟩) hS ?_ ?_
          rotate_left
          focus (intro w_ hw_; have q0_ := hw_.cell (p := ⟨w.heap.size, 0, none⟩) HPh.out q0; have q1_ := hw_.cell (p := ⟨w.heap.size, 1, none⟩) HPh.out q1; have q2_ := hw_.cell (p := ⟨g, pn * 7 + 3, none⟩) HGh.out k3; (exact Lime.calm_))
          rotate_left
          focus (simp only [Act.put, List.setIfInBounds_toArray, List.set_cons_zero, List.set_cons_succ]; first | done | rfl)
          refine Go.Proofs.YtclhmgchllenlaaW.PrintLast.take_ (i := 11) (v := ?_) (a' := ?_) #[true, true, true, true, true, true, true, true, true, true, true, true, false, false, false, false, false] Lime.getop_ rfl (by kernel_rfl) (fun _ _ _ h => h) (Or.inl ⟨by rfl, ?_⟩) hS ?_ ?_
          rotate_left
          focus (intro w_ hw_; have q0_ := hw_.cell (p := ⟨w.heap.size, 0, none⟩) HPh.out q0; have q1_ := hw_.cell (p := ⟨w.heap.size, 1, none⟩) HPh.out q1; have q2_ := hw_.cell (p := ⟨g, pn * 7 + 3, none⟩) HGh.out k3; (exact Lime.calm_))
          rotate_left
          focus (simp only [Act.put, List.setIfInBounds_toArray, List.set_cons_zero, List.set_cons_succ]; first | done | rfl)
          refine Go.Proofs.YtclhmgchllenlaaW.PrintLast.one_ (i := 12) #[true, true, true, true, true, true, true, true, true, true, true, true, true, false, false, false, false] Lime.getop_ rfl (by kernel_rfl) (by decide) (fun K hK => ?_)
          rw [if_pos (by rfl)]; go_simp
          refine hK.out _ _ (by first | assumption | exact kpt_alloc hS | exact kpt_store (kpt_store (kpt_store hS rfl) rfl) rfl | (exact Lime.stp_)) (fun hst => ?_); replace hS := hst
          clear hK K
          (try simp only [Act.put, List.setIfInBounds_toArray, List.set_cons_zero, List.set_cons_succ])
          refine Go.Proofs.YtclhmgchllenlaaW.PrintLast.one_ (i := 13) #[true, true, true, true, true, true, true, true, true, true, true, true, true, true, false, false, false] Lime.getop_ rfl (by kernel_rfl) (by decide) (fun K hK => ?_)
          rw [if_pos (by rfl)]; go_simp; refine (show Calls Try.prog 36 _ _ _ from insI_c (i := xs.length) (hin5.stp ((Stp.refl w5).drew.alloc _)) (by omega) (by omega) (World.alloc_heap_new w5.drew _) HVB).mono ?_; rintro e w6 ⟨v6, rfl, o6, hk6⟩; rw [← HIA.out] at o6; obtain ⟨zs, hzs⟩ : ∃ zs, insAt xs b cn = zs := ⟨_, rfl⟩; rw [hzs] at o6; have HZ := Lib.hid hzs; clear hzs; obtain ⟨A6, c6, e6, _, _⟩ := o6.reads.form; subst e6; have hkw : Kpt (fun j => (Value.slice ka xs.length kc).ownBlock = some j) w5 w6 := (Kpt.of_stp (O := fun j => (Value.slice ka xs.length kc).ownBlock = some j) ((Stp.refl w5).drew.alloc _)).trans hk6 fun x hx => .inl hx
          refine hK.out _ _ (by first | assumption | exact kpt_alloc hS | exact kpt_store (kpt_store (kpt_store hS rfl) rfl) rfl | (exact Lime.stp_)) (fun hst => ?_); replace hS := hst
          clear hK K
          (try simp only [Act.put, List.setIfInBounds_toArray, List.set_cons_zero, List.set_cons_succ])
          refine Go.Proofs.YtclhmgchllenlaaW.PrintLast.pure_ (i := 14) (v := ?_) (a' := ?_) #[true, true, true, true, true, true, true, true, true, true, true, true, true, true, true, false, false] Lime.getop_ rfl (by kernel_rfl) (fun _ _ _ h => h) (Or.inl ⟨by rfl, ?_⟩) ?_ ?_
          rotate_left
          focus (intro w_; (exact Lime.calm_))
          rotate_left
          focus (simp only [Act.put, List.setIfInBounds_toArray, List.set_cons_zero, List.set_cons_succ]; first | done | rfl)
          refine Go.Proofs.YtclhmgchllenlaaW.PrintLast.pure_ (i := 15) (v := ?_) (a' := ?_) #[true, true, true, true, true, true, true, true, true, true, true, true, true, true, true, true, false] Lime.getop_ rfl (by kernel_rfl) (fun _ _ _ h => h) (Or.inl ⟨by rfl, ?_⟩) ?_ ?_
          rotate_left
          focus (intro w_; (exact Lime.calm_))
          rotate_left
          focus (simp only [Act.put, List.setIfInBounds_toArray, List.set_cons_zero, List.set_cons_succ]; first | done | rfl)
          refine Go.Proofs.YtclhmgchllenlaaW.PrintLast.last_ (i := 16) #[true, true, true, true, true, true, true, true, true, true, true, true, true, true, true, true, true] Lime.getop_ rfl (by kernel_rfl) (by decide) (fun K hK => ?_)
          rw [if_pos (by rfl)]; obtain ⟨z3, f3⟩ := inC ((hkw.block g (by omega) HGh.out).trans hcur5) (pn * 7 + 3) _ q3; go_simp
          refine hK.out _ _ ?_
          clear hK K
          (try simp only [Act.put, List.setIfInBounds_toArray, List.set_cons_zero, List.set_cons_succ])
          refine Go.Proofs.YtclhmgchllenlaaW.PrintLast.done_ (by kernel_rfl) (noPanic_n ?_)
          have hcur6 := (hkw.block g (by omega) HGh.out).trans hcur5
          obtain ⟨w7, hw7⟩ : ∃ w7, w6.setCell ⟨g, pn * 7 + 3, none⟩ (.slice A6 zs.length c6) = w7 := ⟨_, rfl⟩
          have hcur7 : w7.heap[g]? = some (.cells (cur.setIfInBounds (pn * 7 + 3) (.slice A6 zs.length c6)) 49 (0, 0)) := by rw [← hw7]; exact blk_set hcur6 _ _
          have hk67 : Kpt (fun k => k = g) w6 w7 := by rw [← hw7]; exact kpt_store (Kpt.refl _ _) rfl
          have r0 := hk67.cell (p := ⟨w.heap.size, 0, none⟩) (by show ¬ w.heap.size = g; omega) (hkw.cell (p := ⟨w.heap.size, 0, none⟩) HPh.out q0)
          have r1 := hk67.cell (p := ⟨w.heap.size, 1, none⟩) (by show ¬ w.heap.size = g; omega) (hkw.cell (p := ⟨w.heap.size, 1, none⟩) HPh.out q1)
          have hz6 := hkw.size
          have hz7 := hk67.size
          have G5 := HG5.out
          have hy := HY.out
          have out5 := G5.out.tight7 (fun k => k = g) (fun k hk => (Option.some.inj hk).symm)
          have out6 := Own.kpt out5 hkw (fun k hk _ e => HGh.out (by rw [← hk]; exact e))
          have o7 := Own.put7 (j := 3) (u := .slice A6 zs.length c6) (y := ⟨yx.kidsTo zs, ⟨A6, zs.length, c6⟩, yav⟩) rfl (out6.tight7 (fun k => w2.heap.size ≤ k) (fun k hk => by have h' : g = k := Option.some.inj hk; omega)) hpL (by omega) (by rw [hy]; rfl)
          rw [hw7] at o7
          have hk57 : Kpt (fun k => (Value.slice (some ⟨g, 0, none⟩) L4.length c2).ownBlock = some k ∨ L4[pn].kv.val.ownBlock = some k) w5 w7 := (hkw.mono fun x hx => .inl (.inr (by rw [hy]; exact hx))).trans hk67 fun x hx => .inl (.inl (by rw [hx]; rfl))
          have o6' : Own intK 3 (fun k => L4[pn].kv.val.ownBlock = some k ∨ w5.heap.size ≤ k) w6 (.slice A6 zs.length c6) zs := o6.to fun k hk => (o6.blk k hk).imp (fun h => by rw [hy]; exact h) (fun h => Nat.le_trans (Stp.size ((Stp.refl w5).drew.alloc _)) h)
          have G7 := G5.upd (Nat.le_refl _) hpL o7 hk57 (by omega) (o6'.kpt hk67 fun k hk _ e => by
            rcases hk with h | h
            · rw [hy] at h; exact HGh.out (by rw [← e]; exact h)
            · omega) ⟨by rw [hy], by rw [hy]; rfl⟩
          have hm7 : (L4.set pn ⟨yx.kidsTo zs, ⟨A6, zs.length, c6⟩, yav⟩).map Nv.x = (takeT t cn).set pn (yx.kidsTo zs) := by rw [List.map_set, HM4.out]
          have hl7 : (L4.set pn ⟨yx.kidsTo zs, ⟨A6, zs.length, c6⟩, yav⟩).length = L4.length := List.length_set
          have hsw7 : Stp w w7 := ((Kpt.of_stp (O := fun _ => False) hsw5).trans hk57 fun x hx => .inr (hx.elim (fun h => by have h' : g = x := Option.some.inj h; omega) (fun h => by rw [hy] at h; have := (HIB.out x h).1; omega))).stp fun x h => h.elim
          obtain ⟨z2, f2⟩ := inC hcur7 (cn * 7 + 2) q4v (by rw [Array.getElem?_setIfInBounds_ne (by omega)]; exact q4)
          rw [hw7]
          have HG7 := Lib.hid G7
          have Hm7 := Lib.hid hm7
          have Hl7 := Lib.hid hl7
          clear G5 G7 hm7 hl7 hk57 o6 o6' o7 out5 out6 hk67 hcur6 hcur5 hcur7 hw7 q0 q1 q2 k3 hS hkw hy
          go_wp2_with fail
          refine bodyPost_ret (results_tmp2 rfl _ _ _) rfl ?_
          have G7 := HG7.out
          have hm7 := Hm7.out
          have hl7 := Hl7.out
          generalize L4.set pn ⟨yx.kidsTo zs, ⟨A6, zs.length, c6⟩, yav⟩ = L7 at G7 hm7 hl7
          have hc7 : cn < L7.length := by rw [hl7]; exact hcL
          have o8 := Own.put7 (j := 2) (u := .int .i64 pn) (y := ⟨L7[cn].x.parTo pn, L7[cn].kv, L7[cn].av⟩) hl7 G7.out hc7 (by omega) rfl
          have G8 := G7.num (by omega) hc7 o8 (kpt_store (Kpt.refl _ _) rfl) (by omega) ⟨rfl, rfl⟩ ⟨rfl, rfl⟩
          have hr8 := G8.reads (by rw [List.length_set]; omega)
          rw [List.map_set, hm7] at hr8
          have hfin : ((takeT t cn).set pn (yx.kidsTo zs)).set cn (L7[cn].x.parTo pn) = insT t pn cn b := by
            have hI : insT t pn cn b = ((takeT t cn).set pn (((takeT t cn).getD pn noNd).kidsTo (insAt ((takeT t cn).getD pn noNd).kids b cn))).set cn ((((takeT t cn).set pn (((takeT t cn).getD pn noNd).kidsTo (insAt ((takeT t cn).getD pn noNd).kids b cn))).getD cn noNd).parTo pn) := if_neg HBC.out
            rw [hI, ← HX.out, HXS.out, HZ.out, ← hm7, getD_x hc7]
          rw [hfin] at hr8
          exact rmRet_new HE.out (hr8.mono fun k hk => by have hk' : w2.heap.size ≤ k := hk; omega) (hsw7.setCell (by omega) _)
        · obtain ⟨i, hi1, hi2, _⟩ := idx_nat (Int.not_lt.1 hi0)
          have HIA := Lib.hid (show insAt xs b cn = xs.take i ++ (cn : Int) :: xs.drop i by simp only [insAt, hi1, Int.toNat_natCast]; rw [if_neg (by omega)])
          rw [hi1]
          have hi3 : ¬ (i : Int) < 0 := by omega
          clear hi0 hi1
          go_upto_region 13 with fail
          have HVB : (Value.slice ka xs.length kc).ownBlock ≠ some w5.heap.size := fun e => by have := own_lt (own_ints hin5) _ e; omega
          refine wp_region_noPanic ?_
          refine Go.Proofs.YtclhmgchllenlaaW.PrintLast.start_ (n := 17) (S := fun W_ => Kpt (fun j => (Value.slice ka xs.length kc).ownBlock = some j) w5 W_) (ds := [16]) #[false, false, false, false, false, false, false, false, false, false, false, false, false, false, false, false, false] (by kernel_rfl) rfl (by kernel_rfl) (kpt_drew (Kpt.refl _ _)) (fun hS => ?_)
          refine Go.Proofs.YtclhmgchllenlaaW.PrintLast.pure_ (i := 0) (v := ?_) (a' := ?_) #[true, false, false, false, false, false, false, false, false, false, false, false, false, false, false, false, false] Lime.getop_ rfl (by kernel_rfl) (fun _ _ _ h => h) (Or.inl ⟨by rfl, ?_⟩) ?_ ?_
          rotate_left
          focus (intro w_; (exact Lime.calm_))
          rotate_left
          focus (simp only [Act.put, List.setIfInBounds_toArray, List.set_cons_zero, List.set_cons_succ]; first | done | rfl)
          refine Go.Proofs.YtclhmgchllenlaaW.PrintLast.pure_ (i := 1) (v := ?_) (a' := ?_) #[true, true, false, false, false, false, false, false, false, false, false, false, false, false, false, false, false] Lime.getop_ rfl (by kernel_rfl) (fun _ _ _ h => h) (Or.inl ⟨by rfl, ?_⟩) ?_ ?_
          rotate_left
          focus (intro w_; (exact Lime.calm_))
          rotate_left
          focus (simp only [Act.put, List.setIfInBounds_toArray, List.set_cons_zero, List.set_cons_succ]; first | done | rfl)
          refine Go.Proofs.YtclhmgchllenlaaW.PrintLast.pure_ (i := 3) (v := ?_) (a' := ?_) #[true, true, false, true, false, false, false, false, false, false, false, false, false, false, false, false, false] Lime.getop_ rfl (by kernel_rfl) (fun _ _ _ h => h) (Or.inl ⟨by rfl, ?_⟩) ?_ ?_
          rotate_left
          focus (intro w_; (exact Lime.calm_))
          rotate_left
          focus (simp only [Act.put, List.setIfInBounds_toArray, List.set_cons_zero, List.set_cons_succ]; first | done | rfl)
          refine Go.Proofs.YtclhmgchllenlaaW.PrintLast.pure_ (i := 4) (v := ?_) (a' := ?_) #[true, true, false, true, true, false, false, false, false, false, false, false, false, false, false, false, false] Lime.getop_ rfl (by kernel_rfl) (fun _ _ _ h => h) (Or.inl ⟨by rfl, ?_⟩) ?_ ?_
          rotate_left
          focus (intro w_; (exact Lime.calm_))
          rotate_left
          focus (simp only [Act.put, List.setIfInBounds_toArray, List.set_cons_zero, List.set_cons_succ]; first | done | rfl)
          refine Go.Proofs.YtclhmgchllenlaaW.PrintLast.pure_ (i := 9) (v := ?_) (a' := ?_) #[true, true, false, true, true, false, false, false, false, true, false, false, false, false, false, false, false] Lime.getop_ rfl (by kernel_rfl) (fun _ _ _ h => h) (Or.inl ⟨by rfl, ?_⟩) ?_ ?_
          rotate_left
          focus (intro w_; (exact Lime.calm_))
          rotate_left
          focus (simp only [Act.put, List.setIfInBounds_toArray, List.set_cons_zero, List.set_cons_succ]; first | done | rfl)
          refine Go.Proofs.YtclhmgchllenlaaW.PrintLast.pure_ (i := 10) (v := ?_) (a' := ?_) #[true, true, false, true, true, false, false, false, false, true, true, false, false, false, false, false, false] Lime.getop_ rfl (by kernel_rfl) (fun _ _ _ h => h) (Or.inl ⟨by rfl, ?_⟩) ?_ ?_
          rotate_left
          focus (intro w_; (exact Lime.calm_))
          rotate_left
          focus (simp only [Act.put, List.setIfInBounds_toArray, List.set_cons_zero, List.set_cons_succ]; first | done | rfl)
          refine Go.Proofs.YtclhmgchllenlaaW.PrintLast.take_ (i := 2) (v := ?_) (a' := ?_) #[true, true, true, true, true, false, false, false, false, true, true, false, false, false, false, false, false] Lime.getop_ rfl (by kernel_rfl) (fun _ _ _ h => h) (Or.inl ⟨by rfl, ?_⟩) hS ?_ ?_
          rotate_left
          focus (intro w_ hw_; have q0_ := hw_.cell (p := ⟨w.heap.size, 0, none⟩) HPh.out q0; have q1_ := hw_.cell (p := ⟨w.heap.size, 1, none⟩) HPh.out q1; have q2_ := hw_.cell (p := ⟨g, pn * 7 + 3, none⟩) HGh.out k3; (exact Lime.calm_))
          rotate_left
          focus (simp only [Act.put, List.setIfInBounds_toArray, List.set_cons_zero, List.set_cons_succ]; first | done | rfl)
          refine Go.Proofs.YtclhmgchllenlaaW.PrintLast.take_ (i := 5) (v := ?_) (a' := ?_) #[true, true, true, true, true, true, false, false, false, true, true, false, false, false, false, false, false] Lime.getop_ rfl (by kernel_rfl) (fun _ _ _ h => h) (Or.inl ⟨by rfl, ?_⟩) hS ?_ ?_
          rotate_left
          focus (intro w_ hw_; have q0_ := hw_.cell (p := ⟨w.heap.size, 0, none⟩) HPh.out q0; have q1_ := hw_.cell (p := ⟨w.heap.size, 1, none⟩) HPh.out q1; have q2_ := hw_.cell (p := ⟨g, pn * 7 + 3, none⟩) HGh.out k3; (exact Lime.calm_))
          rotate_left
          focus (simp only [Act.put, List.setIfInBounds_toArray, List.set_cons_zero, List.set_cons_succ]; first | done | rfl)
          refine Go.Proofs.YtclhmgchllenlaaW.PrintLast.pure_ (i := 6) (v := ?_) (a' := ?_) #[true, true, true, true, true, true, true, false, false, true, true, false, false, false, false, false, false] Lime.getop_ rfl (by kernel_rfl) (fun _ _ _ h => h) (Or.inl ⟨by rfl, ?_⟩) ?_ ?_
          rotate_left
          focus (intro w_; (exact Lime.calm_))
          rotate_left
          focus (simp only [Act.put, List.setIfInBounds_toArray, List.set_cons_zero, List.set_cons_succ]; first | done | rfl)
          refine Go.Proofs.YtclhmgchllenlaaW.PrintLast.pure_ (i := 7) (v := ?_) (a' := ?_) #[true, true, true, true, true, true, true, true, false, true, true, false, false, false, false, false, false] Lime.getop_ rfl (by kernel_rfl) (fun _ _ _ h => h) (Or.inl ⟨by rfl, ?_⟩) ?_ ?_
          rotate_left
          focus (intro w_; (exact Lime.calm_))
          rotate_left
          focus (simp only [Act.put, List.setIfInBounds_toArray, List.set_cons_zero, List.set_cons_succ]; first | done | rfl)
          refine Go.Proofs.YtclhmgchllenlaaW.PrintLast.take_ (i := 8) (v := ?_) (a' := ?_) #[true, true, true, true, true, true, true, true, true, true, true, false, false, false, false, false, false] Lime.getop_ rfl (by kernel_rfl) (fun _ _ _ h => h) (Or.inl ⟨by rfl, ?_⟩) hS ?_ ?_
          rotate_left
          focus (intro w_ hw_; have q0_ := hw_.cell (p := ⟨w.heap.size, 0, none⟩) HPh.out q0; have q1_ := hw_.cell (p := ⟨w.heap.size, 1, none⟩) HPh.out q1; have q2_ := hw_.cell (p := ⟨g, pn * 7 + 3, none⟩) HGh.out k3; (exact Lime.calm_))
          rotate_left
          focus (simp only [Act.put, List.setIfInBounds_toArray, List.set_cons_zero, List.set_cons_succ]; first | done | rfl)
          refine Go.Proofs.YtclhmgchllenlaaW.PrintLast.take_ (i := 11) (v := ?_) (a' := ?_) #[true, true, true, true, true, true, true, true, true, true, true, true, false, false, false, false, false] Lime.getop_ rfl (by kernel_rfl) (fun _ _ _ h => h) (Or.inl ⟨by rfl, ?_⟩) hS ?_ ?_
          rotate_left
          focus (intro w_ hw_; have q0_ := hw_.cell (p := ⟨w.heap.size, 0, none⟩) HPh.out q0; have q1_ := hw_.cell (p := ⟨w.heap.size, 1, none⟩) HPh.out q1; have q2_ := hw_.cell (p := ⟨g, pn * 7 + 3, none⟩) HGh.out k3; (exact Lime.calm_))
          rotate_left
          focus (simp only [Act.put, List.setIfInBounds_toArray, List.set_cons_zero, List.set_cons_succ]; first | done | rfl)
          refine Go.Proofs.YtclhmgchllenlaaW.PrintLast.one_ (i := 12) #[true, true, true, true, true, true, true, true, true, true, true, true, true, false, false, false, false] Lime.getop_ rfl (by kernel_rfl) (by decide) (fun K hK => ?_)
          rw [if_pos (by rfl)]; go_simp
          refine hK.out _ _ (by first | assumption | exact kpt_alloc hS | exact kpt_store (kpt_store (kpt_store hS rfl) rfl) rfl | (exact Lime.stp_)) (fun hst => ?_); replace hS := hst
          clear hK K
          (try simp only [Act.put, List.setIfInBounds_toArray, List.set_cons_zero, List.set_cons_succ])
          refine Go.Proofs.YtclhmgchllenlaaW.PrintLast.one_ (i := 13) #[true, true, true, true, true, true, true, true, true, true, true, true, true, true, false, false, false] Lime.getop_ rfl (by kernel_rfl) (by decide) (fun K hK => ?_)
          rw [if_pos (by rfl)]; go_simp; refine (show Calls Try.prog 36 _ _ _ from insI_c (i := i) (hin5.stp ((Stp.refl w5).drew.alloc _)) (by omega) (by omega) (World.alloc_heap_new w5.drew _) HVB).mono ?_; rintro e w6 ⟨v6, rfl, o6, hk6⟩; rw [← HIA.out] at o6; obtain ⟨zs, hzs⟩ : ∃ zs, insAt xs b cn = zs := ⟨_, rfl⟩; rw [hzs] at o6; have HZ := Lib.hid hzs; clear hzs; obtain ⟨A6, c6, e6, _, _⟩ := o6.reads.form; subst e6; have hkw : Kpt (fun j => (Value.slice ka xs.length kc).ownBlock = some j) w5 w6 := (Kpt.of_stp (O := fun j => (Value.slice ka xs.length kc).ownBlock = some j) ((Stp.refl w5).drew.alloc _)).trans hk6 fun x hx => .inl hx
          refine hK.out _ _ (by first | assumption | exact kpt_alloc hS | exact kpt_store (kpt_store (kpt_store hS rfl) rfl) rfl | (exact Lime.stp_)) (fun hst => ?_); replace hS := hst
          clear hK K
          (try simp only [Act.put, List.setIfInBounds_toArray, List.set_cons_zero, List.set_cons_succ])
          refine Go.Proofs.YtclhmgchllenlaaW.PrintLast.pure_ (i := 14) (v := ?_) (a' := ?_) #[true, true, true, true, true, true, true, true, true, true, true, true, true, true, true, false, false] Lime.getop_ rfl (by kernel_rfl) (fun _ _ _ h => h) (Or.inl ⟨by rfl, ?_⟩) ?_ ?_
          rotate_left
          focus (intro w_; (exact Lime.calm_))
          rotate_left
          focus (simp only [Act.put, List.setIfInBounds_toArray, List.set_cons_zero, List.set_cons_succ]; first | done | rfl)
          refine Go.Proofs.YtclhmgchllenlaaW.PrintLast.pure_ (i := 15) (v := ?_) (a' := ?_) #[true, true, true, true, true, true, true, true, true, true, true, true, true, true, true, true, false] Lime.getop_ rfl (by kernel_rfl) (fun _ _ _ h => h) (Or.inl ⟨by rfl, ?_⟩) ?_ ?_
          rotate_left
          focus (intro w_; (exact Lime.calm_))
          rotate_left
          focus (simp only [Act.put, List.setIfInBounds_toArray, List.set_cons_zero, List.set_cons_succ]; first | done | rfl)
          refine Go.Proofs.YtclhmgchllenlaaW.PrintLast.last_ (i := 16) #[true, true, true, true, true, true, true, true, true, true, true, true, true, true, true, true, true] Lime.getop_ rfl (by kernel_rfl) (by decide) (fun K hK => ?_)
          rw [if_pos (by rfl)]; obtain ⟨z3, f3⟩ := inC ((hkw.block g (by omega) HGh.out).trans hcur5) (pn * 7 + 3) _ q3; go_simp
          refine hK.out _ _ ?_
          clear hK K
          (try simp only [Act.put, List.setIfInBounds_toArray, List.set_cons_zero, List.set_cons_succ])
          refine Go.Proofs.YtclhmgchllenlaaW.PrintLast.done_ (by kernel_rfl) (noPanic_n ?_)
          have hcur6 := (hkw.block g (by omega) HGh.out).trans hcur5
          obtain ⟨w7, hw7⟩ : ∃ w7, w6.setCell ⟨g, pn * 7 + 3, none⟩ (.slice A6 zs.length c6) = w7 := ⟨_, rfl⟩
          have hcur7 : w7.heap[g]? = some (.cells (cur.setIfInBounds (pn * 7 + 3) (.slice A6 zs.length c6)) 49 (0, 0)) := by rw [← hw7]; exact blk_set hcur6 _ _
          have hk67 : Kpt (fun k => k = g) w6 w7 := by rw [← hw7]; exact kpt_store (Kpt.refl _ _) rfl
          have r0 := hk67.cell (p := ⟨w.heap.size, 0, none⟩) (by show ¬ w.heap.size = g; omega) (hkw.cell (p := ⟨w.heap.size, 0, none⟩) HPh.out q0)
          have r1 := hk67.cell (p := ⟨w.heap.size, 1, none⟩) (by show ¬ w.heap.size = g; omega) (hkw.cell (p := ⟨w.heap.size, 1, none⟩) HPh.out q1)
          have hz6 := hkw.size
          have hz7 := hk67.size
          have G5 := HG5.out
          have hy := HY.out
          have out5 := G5.out.tight7 (fun k => k = g) (fun k hk => (Option.some.inj hk).symm)
          have out6 := Own.kpt out5 hkw (fun k hk _ e => HGh.out (by rw [← hk]; exact e))
          have o7 := Own.put7 (j := 3) (u := .slice A6 zs.length c6) (y := ⟨yx.kidsTo zs, ⟨A6, zs.length, c6⟩, yav⟩) rfl (out6.tight7 (fun k => w2.heap.size ≤ k) (fun k hk => by have h' : g = k := Option.some.inj hk; omega)) hpL (by omega) (by rw [hy]; rfl)
          rw [hw7] at o7
          have hk57 : Kpt (fun k => (Value.slice (some ⟨g, 0, none⟩) L4.length c2).ownBlock = some k ∨ L4[pn].kv.val.ownBlock = some k) w5 w7 := (hkw.mono fun x hx => .inl (.inr (by rw [hy]; exact hx))).trans hk67 fun x hx => .inl (.inl (by rw [hx]; rfl))
          have o6' : Own intK 3 (fun k => L4[pn].kv.val.ownBlock = some k ∨ w5.heap.size ≤ k) w6 (.slice A6 zs.length c6) zs := o6.to fun k hk => (o6.blk k hk).imp (fun h => by rw [hy]; exact h) (fun h => Nat.le_trans (Stp.size ((Stp.refl w5).drew.alloc _)) h)
          have G7 := G5.upd (Nat.le_refl _) hpL o7 hk57 (by omega) (o6'.kpt hk67 fun k hk _ e => by
            rcases hk with h | h
            · rw [hy] at h; exact HGh.out (by rw [← e]; exact h)
            · omega) ⟨by rw [hy], by rw [hy]; rfl⟩
          have hm7 : (L4.set pn ⟨yx.kidsTo zs, ⟨A6, zs.length, c6⟩, yav⟩).map Nv.x = (takeT t cn).set pn (yx.kidsTo zs) := by rw [List.map_set, HM4.out]
          have hl7 : (L4.set pn ⟨yx.kidsTo zs, ⟨A6, zs.length, c6⟩, yav⟩).length = L4.length := List.length_set
          have hsw7 : Stp w w7 := ((Kpt.of_stp (O := fun _ => False) hsw5).trans hk57 fun x hx => .inr (hx.elim (fun h => by have h' : g = x := Option.some.inj h; omega) (fun h => by rw [hy] at h; have := (HIB.out x h).1; omega))).stp fun x h => h.elim
          obtain ⟨z2, f2⟩ := inC hcur7 (cn * 7 + 2) q4v (by rw [Array.getElem?_setIfInBounds_ne (by omega)]; exact q4)
          rw [hw7]
          have HG7 := Lib.hid G7
          have Hm7 := Lib.hid hm7
          have Hl7 := Lib.hid hl7
          clear G5 G7 hm7 hl7 hk57 o6 o6' o7 out5 out6 hk67 hcur6 hcur5 hcur7 hw7 q0 q1 q2 k3 hS hkw hy
          go_wp2_with fail
          refine bodyPost_ret (results_tmp2 rfl _ _ _) rfl ?_
          have G7 := HG7.out
          have hm7 := Hm7.out
          have hl7 := Hl7.out
          generalize L4.set pn ⟨yx.kidsTo zs, ⟨A6, zs.length, c6⟩, yav⟩ = L7 at G7 hm7 hl7
          have hc7 : cn < L7.length := by rw [hl7]; exact hcL
          have o8 := Own.put7 (j := 2) (u := .int .i64 pn) (y := ⟨L7[cn].x.parTo pn, L7[cn].kv, L7[cn].av⟩) hl7 G7.out hc7 (by omega) rfl
          have G8 := G7.num (by omega) hc7 o8 (kpt_store (Kpt.refl _ _) rfl) (by omega) ⟨rfl, rfl⟩ ⟨rfl, rfl⟩
          have hr8 := G8.reads (by rw [List.length_set]; omega)
          rw [List.map_set, hm7] at hr8
          have hfin : ((takeT t cn).set pn (yx.kidsTo zs)).set cn (L7[cn].x.parTo pn) = insT t pn cn b := by
            have hI : insT t pn cn b = ((takeT t cn).set pn (((takeT t cn).getD pn noNd).kidsTo (insAt ((takeT t cn).getD pn noNd).kids b cn))).set cn ((((takeT t cn).set pn (((takeT t cn).getD pn noNd).kidsTo (insAt ((takeT t cn).getD pn noNd).kids b cn))).getD cn noNd).parTo pn) := if_neg HBC.out
            rw [hI, ← HX.out, HXS.out, HZ.out, ← hm7, getD_x hc7]
          rw [hfin] at hr8
          exact rmRet_new HE.out (hr8.mono fun k hk => by have hk' : w2.heap.size ≤ k := hk; omega) (hsw7.setCell (by omega) _)
    · have hwz : (wrongR t p c b != 0) = true := by simpa using hwr
      have HE := Lib.hid (show insR t p c b = (t, wrongR t p c b) by rw [insR, if_neg (by simp [HM.out]), if_pos hwr])
      clear hwr
      go_enter Try.func17, Try.ntmps17
      go_wp2_with (first | (go_at_call 29; refine (cm _ Lime.stp_).mono ?_; rintro e w1 ⟨rfl, hb1⟩; replace p0 := hb1.cell p0; replace p1 := hb1.cell p1; replace p2 := hb1.cell p2) | (go_at_call 33; refine (cw _ Lime.stp_).mono ?_; rintro e w2 ⟨rfl, hb2⟩))
      refine bodyPost_ret (results_tmp2 rfl _ _ _) rfl ?_
      exact rmRet_same HE.out Lime.stp_
end Go.Proofs.Lime
