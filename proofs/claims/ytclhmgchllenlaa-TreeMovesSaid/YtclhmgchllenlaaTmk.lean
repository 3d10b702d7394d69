/- Walks: a node made; a shadow attached. -/
import Derived.Test.YtclhmgchllenlaaTcp
import Derived.Test.YtclhmgchllenlaaMC
import Derived.Test.YtclhmgchllenlaaMay
namespace Go.Proofs.Lime
open Go.RowKit
set_option linter.unusedVariables false
set_option linter.unusedSimpArgs false
attribute [local go_sem] Oper.semAt_some
/-- May such a node be made? -/
def mkOk (kind tag : Int) : Bool := (kind == 1 && (decide (0 ≤ tag) && decide (tag ≤ 4))) || (kind == 2 && tag == 0)
def mkR (t : List Nd) (kind tag : Int) : List Nd × Int × Int := if mayT t = false then ([], 0, 1) else if mkOk kind tag = false then (t, 0, 3) else if t.length = 64 then (t, 0, 4) else (t ++ [freshN kind tag], t.length, 0)
section
variable {t : List Nd} {k g : Int}
theorem mkR_1 (h : mayT t = false) : mkR t k g = ([], 0, 1) := if_pos h
theorem mkR_2 (h : mayT t = true) (h2 : mkOk k g = false) : mkR t k g = (t, 0, 3) := by rw [mkR, if_neg (by simp [h]), if_pos h2]
theorem mkR_3 (h : mayT t = true) (h2 : mkOk k g = true) (h3 : t.length = 64) : mkR t k g = (t, 0, 4) := by rw [mkR, if_neg (by simp [h]), if_neg (by simp [h2]), if_pos h3]
theorem mkR_4 (h : mayT t = true) (h2 : mkOk k g = true) (h3 : ¬ t.length = 64) : mkR t k g = (t ++ [freshN k g], (t.length : Int), 0) := by rw [mkR, if_neg (by simp [h]), if_neg (by simp [h2]), if_neg h3]
end
/-- What a tree's function hands back: what it was given, or a new tree. -/
def TOut (w w' : World) (v : Value) (t : List Nd) (u : Value) (r : List Nd) : Prop := (u = v ∧ r = t) ∨ Row nodeK (fun k => w.heap.size ≤ k) w' u r
def MkRet (v : Value) (t : List Nd) (R : List Nd × Int × Int) (w : World) (e : Ending) (w' : World) : Prop := ∃ u, e = .returned (.tuple #[u, .int .i64 R.2.1, .int .i64 R.2.2]) ∧ TOut w w' v t u R.1 ∧ Stp w w'
theorem mkRet_same {v : Value} {t : List Nd} {R : List Nd × Int × Int} {w w' : World} {k : Int} (h : R = (t, 0, k)) (hs : Stp w w') : MkRet v t R w (.returned (.tuple #[v, .int .i64 0, .int .i64 k])) w' := by
  subst h; exact ⟨v, rfl, .inl ⟨rfl, rfl⟩, hs⟩
theorem mkRet_none {v : Value} {t : List Nd} {R : List Nd × Int × Int} {w w' : World} (h : R = ([], 0, 1)) (hs : Stp w w') : MkRet v t R w (.returned (.tuple #[.slice none 0 0, .int .i64 0, .int .i64 1])) w' := by
  subst h; exact ⟨_, rfl, .inr (Row.nil _ _ _), hs⟩
set_option maxRecDepth 100000 in
set_option maxHeartbeats 4000000 in
theorem make_c {S : Nat → Prop} {w : World} {v : Value} {t : List Nd} (hr : Row nodeK S w v t) (hok : okT t = true) (kind tag : Int) :
    Calls Try.prog 11 #[v, .int .i64 kind, .int .i64 tag] w (MkRet v t (mkR t kind tag) w) := by
  have hks : ∀ k (hk : k < t.length), t[k].kids.length ≤ 1000 := fun k hk => ((okT_iff.1 hok).2 _ (List.getElem_mem hk)).1
  have hl := (okT_iff.1 hok).1
  have cm := fun W (h : Stp w W) => may_c (hr.stp h) hks
  have cc := fun W (h : Stp w W) => copy_c (hr.stp h) hok
  obtain ⟨A, c, rfl, hc, hm⟩ := hr.form
  clear hks hok hr
  cases hmy : mayT t with
  | false =>
    rw [hmy] at cm
    have HE := Lib.hid (mkR_1 (k := kind) (g := tag) hmy)
    clear hmy
    by_cases hk1 : kind = 1
    · subst hk1
      have ci := fun W => in_c W tag 0 4
      go_enter Try.func11, Try.ntmps11
      go_wp2_with (first | (go_at_call 28; refine (ci _).mono ?_; rintro e w0 ⟨rfl, hb0⟩) | (go_at_call 29; refine (cm _ Lime.stp_).mono ?_; rintro e w1 ⟨rfl, hb1⟩))
      refine bodyPost_ret (results_tmp3 rfl _ _ _) rfl ?_
      exact mkRet_none HE.out Lime.stp_
    · have hk1z : (kind == 1) = false := by simpa using hk1
      clear hk1
      have ci := fun W => in_c W tag 0 4
      go_enter Try.func11, Try.ntmps11
      go_wp2_with (first | (go_at_call 28; refine (ci _).mono ?_; rintro e w0 ⟨rfl, hb0⟩) | (go_at_call 29; refine (cm _ Lime.stp_).mono ?_; rintro e w1 ⟨rfl, hb1⟩))
      refine bodyPost_ret (results_tmp3 rfl _ _ _) rfl ?_
      exact mkRet_none HE.out Lime.stp_
  | true =>
    rw [hmy] at cm
    have HM := Lib.hid hmy
    clear hmy
    by_cases hk1 : kind = 1
    · subst hk1
      have ci := fun W => in_c W tag 0 4
      cases hq : (decide (0 ≤ tag) && decide (tag ≤ 4)) with
      | true =>
        rw [hq] at ci
        have HQ := Lib.hid (show mkOk 1 tag = true by simp only [mkOk, hq]; rfl)
        clear hq
        go_enter Try.func11, Try.ntmps11
        by_cases h64 : t.length = 64
        · have h64z : ((t.length : Int) == 64) = true := by simp [h64]
          have H6 := Lib.hid h64
          clear h64
          go_wp2_with (first | (go_at_call 28; refine (ci _).mono ?_; rintro e w0 ⟨rfl, hb0⟩) | (go_at_call 29; refine (cm _ Lime.stp_).mono ?_; rintro e w1 ⟨rfl, hb1⟩))
          refine bodyPost_ret (results_tmp3 rfl _ _ _) rfl ?_
          exact mkRet_same (mkR_3 HM.out HQ.out H6.out) Lime.stp_
        · have h64z : ((t.length : Int) == 64) = false := by simp; omega
          have H6 := Lib.hid h64
          clear h64
          go_upto_region 8 with (first | (go_at_call 28; refine (ci _).mono ?_; rintro e w0 ⟨rfl, hb0⟩) | (go_at_call 29; refine (cm _ Lime.stp_).mono ?_; rintro e w1 ⟨rfl, hb1⟩))
          have hs1 : Stp w w1 := by (exact Lime.stp_)
          go_wp2_with (first | (go_at_call 30; refine (cc _ hs1).mono ?_; rintro e w2 ⟨v2, rfl, L, G, hLx, hb2⟩; obtain ⟨A2, c2, rfl, hc2, hm2⟩ := G.out.reads.form) | (go_at_call 31; refine (fresh_c _ _ _).mono ?_; rintro e w3 ⟨rfl, hb3⟩) | (at_builtin; refine wpl_append1 (d := nvK) (S := fun k => (Value.slice A2 L.length c2).ownBlock = some k ∨ w3.heap.size ≤ k) (T := fun _ => False) rfl (.tmp 38) (.tmp 42) 23 49 _ 88 rfl Try.underlying23 infoNode rfl (by decide) (by decide) _ L ⟨freshN 1 tag, ⟨none, 0, 0⟩, ⟨none, 0, 0⟩⟩ _ rfl (by first | (go_simp; done) | (go_simp; rfl)) (by show _ = Nv.cells _; simp [Nv.cells, freshN]) (fun _ h _ => h.elim) ((G.out.stp hb3).tight7 _ (fun k h => .inl h)) (fun k hk => .inr hk) (by have := congrArg List.length hLx; simp at this; omega) ?_; intro v4 w4 ho4 hg4))
          refine bodyPost_ret (results_tmp3 rfl _ _ _) rfl ?_
          have G3 := G.stp hb3
          have hz23 := hb3.size
          have hz12 := hb2.size
          have G4 := G3.push (Nat.le_refl _) (ho4.mono fun k hk _ => hk.elim (G3.out.blk k) (fun h => by omega)) hg4 (fun k hk => ho4.blk k hk) ⟨rfl, rfl, rfl, rfl⟩
          have hr4 := G4.reads (by simp)
          have hs4 : Stp w w4 := Stp.grown (hs1.trans (hb2.trans hb3)) hg4 fun k hk => Nat.le_trans hs1.size (G3.out.blk k hk)
          rw [List.map_append, hLx] at hr4
          have HR := mkR_4 HM.out HQ.out H6.out
          show MkRet _ _ _ _ (.returned (.tuple #[v4, .int .i64 t.length, .int .i64 0])) _
          exact ⟨v4, by rw [HR], .inr (by rw [HR]; exact hr4.mono fun k hk => Nat.le_trans hs1.size hk), hs4⟩
      | false =>
        rw [hq] at ci
        have HE := Lib.hid (mkR_2 HM.out (show mkOk 1 tag = false by simp only [mkOk, hq]; rfl))
        clear hq
        go_enter Try.func11, Try.ntmps11
        go_wp2_with (first | (go_at_call 28; refine (ci _).mono ?_; rintro e w0 ⟨rfl, hb0⟩) | (go_at_call 29; refine (cm _ Lime.stp_).mono ?_; rintro e w1 ⟨rfl, hb1⟩))
        refine bodyPost_ret (results_tmp3 rfl _ _ _) rfl ?_
        exact mkRet_same HE.out Lime.stp_
    · have hk1z : (kind == 1) = false := by simpa using hk1
      have ci := fun W => in_c W tag 0 4
      by_cases hk2 : kind = 2
      · subst hk2
        by_cases ht0 : tag = 0
        · subst ht0
          have HQ := Lib.hid (show mkOk 2 0 = true from rfl)
          clear hk1z hk1
          go_enter Try.func11, Try.ntmps11
          by_cases h64 : t.length = 64
          · have h64z : ((t.length : Int) == 64) = true := by simp [h64]
            have H6 := Lib.hid h64
            clear h64
            go_wp2_with (first | (go_at_call 28; refine (ci _).mono ?_; rintro e w0 ⟨rfl, hb0⟩) | (go_at_call 29; refine (cm _ Lime.stp_).mono ?_; rintro e w1 ⟨rfl, hb1⟩))
            refine bodyPost_ret (results_tmp3 rfl _ _ _) rfl ?_
            exact mkRet_same (mkR_3 HM.out HQ.out H6.out) Lime.stp_
          · have h64z : ((t.length : Int) == 64) = false := by simp; omega
            have H6 := Lib.hid h64
            clear h64
            go_upto_region 8 with (first | (go_at_call 28; refine (ci _).mono ?_; rintro e w0 ⟨rfl, hb0⟩) | (go_at_call 29; refine (cm _ Lime.stp_).mono ?_; rintro e w1 ⟨rfl, hb1⟩))
            have hs1 : Stp w w1 := by (exact Lime.stp_)
            go_wp2_with (first | (go_at_call 30; refine (cc _ hs1).mono ?_; rintro e w2 ⟨v2, rfl, L, G, hLx, hb2⟩; obtain ⟨A2, c2, rfl, hc2, hm2⟩ := G.out.reads.form) | (go_at_call 31; refine (fresh_c _ _ _).mono ?_; rintro e w3 ⟨rfl, hb3⟩) | (at_builtin; refine wpl_append1 (d := nvK) (S := fun k => (Value.slice A2 L.length c2).ownBlock = some k ∨ w3.heap.size ≤ k) (T := fun _ => False) rfl (.tmp 38) (.tmp 42) 23 49 _ 88 rfl Try.underlying23 infoNode rfl (by decide) (by decide) _ L ⟨freshN 2 0, ⟨none, 0, 0⟩, ⟨none, 0, 0⟩⟩ _ rfl (by first | (go_simp; done) | (go_simp; rfl)) (by show _ = Nv.cells _; simp [Nv.cells, freshN]) (fun _ h _ => h.elim) ((G.out.stp hb3).tight7 _ (fun k h => .inl h)) (fun k hk => .inr hk) (by have := congrArg List.length hLx; simp at this; omega) ?_; intro v4 w4 ho4 hg4))
            refine bodyPost_ret (results_tmp3 rfl _ _ _) rfl ?_
            have G3 := G.stp hb3
            have hz23 := hb3.size
            have hz12 := hb2.size
            have G4 := G3.push (Nat.le_refl _) (ho4.mono fun k hk _ => hk.elim (G3.out.blk k) (fun h => by omega)) hg4 (fun k hk => ho4.blk k hk) ⟨rfl, rfl, rfl, rfl⟩
            have hr4 := G4.reads (by simp)
            have hs4 : Stp w w4 := Stp.grown (hs1.trans (hb2.trans hb3)) hg4 fun k hk => Nat.le_trans hs1.size (G3.out.blk k hk)
            rw [List.map_append, hLx] at hr4
            have HR := mkR_4 HM.out HQ.out H6.out
            show MkRet _ _ _ _ (.returned (.tuple #[v4, .int .i64 t.length, .int .i64 0])) _
            exact ⟨v4, by rw [HR], .inr (by rw [HR]; exact hr4.mono fun k hk => Nat.le_trans hs1.size hk), hs4⟩
        · have ht0z : (tag == 0) = false := by simpa using ht0
          have ht0y : (tag != 0) = true := by simpa using ht0
          have HE := Lib.hid (mkR_2 HM.out (show mkOk 2 tag = false by simp [mkOk, ht0z]))
          clear ht0 hk1z hk1
          go_enter Try.func11, Try.ntmps11
          go_wp2_with (first | (go_at_call 28; refine (ci _).mono ?_; rintro e w0 ⟨rfl, hb0⟩) | (go_at_call 29; refine (cm _ Lime.stp_).mono ?_; rintro e w1 ⟨rfl, hb1⟩))
          refine bodyPost_ret (results_tmp3 rfl _ _ _) rfl ?_
          exact mkRet_same HE.out Lime.stp_
      · have hk2z : (kind == 2) = false := by simpa using hk2
        have hk2y : (kind != 2) = true := by simpa using hk2
        have HE := Lib.hid (mkR_2 HM.out (show mkOk kind tag = false by simp [mkOk, hk1z, hk2z]))
        clear hk1 hk2
        go_enter Try.func11, Try.ntmps11
        go_wp2_with (first | (go_at_call 28; refine (ci _).mono ?_; rintro e w0 ⟨rfl, hb0⟩) | (go_at_call 29; refine (cm _ Lime.stp_).mono ?_; rintro e w1 ⟨rfl, hb1⟩))
        refine bodyPost_ret (results_tmp3 rfl _ _ _) rfl ?_
        exact mkRet_same HE.out Lime.stp_
def Nd.rootTo (x : Nd) (r : Int) : Nd := { x with root := r }
def Nd.hostTo (x : Nd) (r : Int) : Nd := { x with host := r }
/-- A shadow attached to a node. -/
def atT (t : List Nd) (h : Nat) : List Nd := (t.set h ((t.getD h noNd).rootTo t.length)) ++ [⟨3, 0, -1, [], h, -1, []⟩]
def atR (t : List Nd) (h : Int) : List Nd × Int × Int := if mayT t = false then ([], 0, 1) else if isN t h = false then (t, 0, 2) else if (nd t h).kind ≠ 1 then (t, 0, 3) else if (nd t h).root ≠ -1 then (t, 0, 6) else if t.length = 64 then (t, 0, 4) else (atT t h.toNat, t.length, 0)
set_option maxRecDepth 100000 in
set_option maxHeartbeats 4000000 in
theorem attach_c {S : Nat → Prop} {w : World} {v : Value} {t : List Nd} (hr : Row nodeK S w v t) (hok : okT t = true) (h : Int) :
    Calls Try.prog 13 #[v, .int .i64 h] w (MkRet v t (atR t h) w) := by
  have hks : ∀ k (hk : k < t.length), t[k].kids.length ≤ 1000 := fun k hk => ((okT_iff.1 hok).2 _ (List.getElem_mem hk)).1
  have hl := (okT_iff.1 hok).1
  have cm := fun W (h : Stp w W) => may_c (hr.stp h) hks
  have cc := fun W (h : Stp w W) => copy_c (hr.stp h) hok
  obtain ⟨A, c, rfl, hc, hm⟩ := hr.form
  have ci := fun W => isT_c (w := W) (A := A) (c := c) h hc hm
  clear hks hok
  cases hmy : mayT t with
  | false =>
    rw [hmy] at cm
    have HE := Lib.hid (show atR t h = ([], 0, 1) from if_pos hmy)
    clear hmy
    go_enter Try.func13, Try.ntmps13
    go_wp2_with (first | (go_at_call 29; refine (cm _ Lime.stp_).mono ?_; rintro e w1 ⟨rfl, hb1⟩; (try replace k0 := hb1.cell k0); (try replace k5 := hb1.cell k5)) | (go_at_call 32; refine (ci _).mono ?_; rintro e w0 ⟨rfl, hb0⟩; (try replace k0 := hb0.cell k0); (try replace k5 := hb0.cell k5)))
    refine bodyPost_ret (results_tmp3 rfl _ _ _) rfl ?_
    exact mkRet_none HE.out Lime.stp_
  | true =>
    rw [hmy] at cm
    have HM := Lib.hid hmy
    clear hmy
    cases hn : isN t h with
    | false =>
      rw [hn] at ci
      have HE := Lib.hid (show atR t h = (t, 0, 2) by rw [atR, if_neg (by simp [HM.out]), if_pos hn])
      clear hn
      go_enter Try.func13, Try.ntmps13
      go_wp2_with (first | (go_at_call 29; refine (cm _ Lime.stp_).mono ?_; rintro e w1 ⟨rfl, hb1⟩; (try replace k0 := hb1.cell k0); (try replace k5 := hb1.cell k5)) | (go_at_call 32; refine (ci _).mono ?_; rintro e w0 ⟨rfl, hb0⟩; (try replace k0 := hb0.cell k0); (try replace k5 := hb0.cell k5)))
      refine bodyPost_ret (results_tmp3 rfl _ _ _) rfl ?_
      exact mkRet_same HE.out Lime.stp_
    | true =>
      rw [hn] at ci
      obtain ⟨n, rfl, hnl⟩ := isN_nat hn
      have HN := Lib.hid hn
      have HD := Lib.hid (nd_nat hnl)
      clear hn
      obtain ⟨b, o, rfl, _, _, hat⟩ := tree_base hr (by omega)
      obtain ⟨Ak, ck, Aa, ca, at0⟩ := hat n hnl
      have k0 := at0.c0
      have k5 := at0.c5
      have hnz : (n : Int) < (t.length : Int) := by omega
      clear at0 hat
      by_cases hk : t[n].kind = 1
      · rw [hk] at k0
        have HK := Lib.hid hk
        clear hk
        by_cases hro : t[n].root = -1
        · rw [hro] at k5
          have HO := Lib.hid hro
          clear hro
          by_cases h64 : t.length = 64
          · have h64z : ((t.length : Int) == 64) = true := by simp [h64]
            have HE := Lib.hid (show atR t n = (t, 0, 4) by rw [atR, if_neg (by simp [HM.out]), if_neg (by simp [HN.out]), HD.out, if_neg (by simp [HK.out]), if_neg (by simp [HO.out]), if_pos h64])
            clear h64
            go_enter Try.func13, Try.ntmps13
            go_wp2_with (first | (go_at_call 29; refine (cm _ Lime.stp_).mono ?_; rintro e w1 ⟨rfl, hb1⟩; (try replace k0 := hb1.cell k0); (try replace k5 := hb1.cell k5)) | (go_at_call 32; refine (ci _).mono ?_; rintro e w0 ⟨rfl, hb0⟩; (try replace k0 := hb0.cell k0); (try replace k5 := hb0.cell k5)))
            refine bodyPost_ret (results_tmp3 rfl _ _ _) rfl ?_
            exact mkRet_same HE.out Lime.stp_
          · have h64z : ((t.length : Int) == 64) = false := by simp; omega
            have HE := Lib.hid (show atR t n = (atT t n, (t.length : Int), 0) by rw [atR, if_neg (by simp [HM.out]), if_neg (by simp [HN.out]), HD.out, if_neg (by simp [HK.out]), if_neg (by simp [HO.out]), if_neg h64]; rfl)
            clear h64
            go_enter Try.func13, Try.ntmps13
            go_upto_region 12 with (first | (go_at_call 29; refine (cm _ Lime.stp_).mono ?_; rintro e w1 ⟨rfl, hb1⟩; replace k0 := hb1.cell k0; replace k5 := hb1.cell k5) | (go_at_call 32; refine (ci _).mono ?_; rintro e w0 ⟨rfl, hb0⟩; replace k0 := hb0.cell k0; replace k5 := hb0.cell k5))
            have hs1 : Stp w w0 := by (exact Lime.stp_)
            clear k0 k5 hr
            go_upto_region 13 with (first | (go_at_call 30; refine (cc _ hs1).mono ?_; rintro e w2 ⟨v2, rfl, L, G, hLx, hb2⟩; obtain ⟨A2, c2, rfl, hc2, hm2⟩ := G.out.reads.form) | (go_at_call 31; refine (fresh_c _ _ _).mono ?_; rintro e w3 ⟨rfl, hb3⟩) | (at_builtin; refine wpl_append1 (d := nvK) (S := fun k => (Value.slice A2 L.length c2).ownBlock = some k ∨ w3.heap.size ≤ k) (T := fun _ => False) rfl (.tmp 43) (.tmp 45) 23 49 _ 88 rfl Try.underlying23 infoNode rfl (by decide) (by decide) _ L ⟨freshN 3 0, ⟨none, 0, 0⟩, ⟨none, 0, 0⟩⟩ _ rfl (by first | (go_simp; done) | (go_simp; rfl)) (by show _ = Nv.cells _; simp [Nv.cells, freshN]) (fun _ h _ => h.elim) ((G.out.stp hb3).tight7 _ (fun k h => .inl h)) (fun k hk => .inr hk) (by have := congrArg List.length hLx; simp at this; omega) ?_; intro v4 w4 ho4 hg4))
            have G3 := G.stp hb3
            have hz23 := hb3.size
            have hz12 := hb2.size
            have hz01 := hs1.size
            have G4 := G3.push (Nat.le_refl _) (ho4.mono fun k hk _ => hk.elim (G3.out.blk k) (fun h => by omega)) hg4 (fun k hk => ho4.blk k hk) ⟨rfl, rfl, rfl, rfl⟩
            have hs4 : Stp w w4 := Stp.grown (hs1.trans (hb2.trans hb3)) hg4 fun k hk => Nat.le_trans hs1.size (G3.out.blk k hk)
            have hLl := Lib.hid (show L.length = t.length by have := congrArg List.length hLx; simpa using this)
            have HL := Lib.hid hLx
            clear G G3 ho4 hg4 hb2 hb3 hLx hc2 hm2 hb0 hb1
            have hl4 : (L ++ [⟨freshN 3 0, ⟨none, 0, 0⟩, ⟨none, 0, 0⟩⟩] : List Nv).length = t.length + 1 := by rw [List.length_append, hLl.out]; rfl
            have hn4 : n < (L ++ [⟨freshN 3 0, ⟨none, 0, 0⟩, ⟨none, 0, 0⟩⟩] : List Nv).length := by rw [hl4]; omega
            have hm4 : t.length < (L ++ [⟨freshN 3 0, ⟨none, 0, 0⟩, ⟨none, 0, 0⟩⟩] : List Nv).length := by rw [hl4]; omega
            obtain ⟨g, cg, rfl, hob, hgb, hgl, hgc, hg63, ⟨cur, hcur, hcu⟩, _⟩ := G4.out.at7 (Nat.lt_of_le_of_lt (Nat.zero_le n) hn4)
            have q5 := hcu n hn4 5 _ (by omega) rfl
            have q4 := hcu t.length hm4 4 _ (by omega) rfl
            obtain ⟨z5, f5⟩ := inC hcur (n * 7 + 5) _ q5
            obtain ⟨z4, f4⟩ := inC (blk_set hcur (n * 7 + 5) (.int .i64 t.length)) (t.length * 7 + 4) _ (by rw [Array.getElem?_setIfInBounds_ne (by omega)]; exact q4)
            have HL4 := Lib.hid hl4
            rw [HL4.out]
            have hgc' : t.length + 1 ≤ cg := by rw [← HL4.out]; exact hgc
            have HG := Lib.hid G4
            have Hn := Lib.hid hn4
            have Hm := Lib.hid hm4
            generalize (L ++ [⟨freshN 3 0, ⟨none, 0, 0⟩, ⟨none, 0, 0⟩⟩] : List Nv)[n].x.root = rt0 at q5 z5
            generalize (L ++ [⟨freshN 3 0, ⟨none, 0, 0⟩, ⟨none, 0, 0⟩⟩] : List Nv)[t.length].x.host = ho0 at q4 z4
            clear hl4 q4 q5 hgc G4 hcu hn4 hm4
            have hnz1 : (n : Int) < ((t.length + 1 : Nat) : Int) := by omega
            have htz1 : (t.length : Int) < ((t.length + 1 : Nat) : Int) := by omega
            go_upto_region 14 with fail
            have G4 := HG.out
            have hl4 := HL4.out
            have hL4x : ((L ++ [⟨freshN 3 0, ⟨none, 0, 0⟩, ⟨none, 0, 0⟩⟩] : List Nv)).map Nv.x = t ++ [freshN 3 0] := by rw [List.map_append, HL.out]; rfl
            have hn4 := Hn.out
            have hm4 := Hm.out
            rw [hl4] at G4
            generalize (L ++ [⟨freshN 3 0, ⟨none, 0, 0⟩, ⟨none, 0, 0⟩⟩] : List Nv) = L4 at G4 hl4 hL4x hn4 hm4
            have hxn : L4[n].x = t[n] := by
              have h1 : (L4.map Nv.x)[n]'(by simpa using hn4) = (t ++ [freshN 3 0])[n]'(by simp; omega) := by simp only [hL4x]
              rw [List.getElem_append_left hnl] at h1
              simpa using h1
            have hxm : L4[t.length].x = freshN 3 0 := by
              have h1 : (L4.map Nv.x)[t.length]'(by simpa using hm4) = (t ++ [freshN 3 0])[t.length]'(by simp) := by simp only [hL4x]
              rw [List.getElem_append_right (Nat.le_refl _)] at h1
              simpa using h1
            have hbw : w0.heap.size ≤ w4.heap.size := Nat.le_trans hgb (Nat.le_of_lt hgl)
            have o5 := Own.put7 (j := 5) (u := .int .i64 t.length) (y := ⟨L4[n].x.rootTo t.length, L4[n].kv, L4[n].av⟩) hl4 G4.out hn4 (by omega) rfl
            have G5 := G4.num (by have := hLl.out; omega) hn4 o5 (kpt_store (Kpt.refl _ _) hob) hbw ⟨rfl, rfl⟩ ⟨rfl, rfl⟩
            have hm5 : t.length < (L4.set n ⟨L4[n].x.rootTo t.length, L4[n].kv, L4[n].av⟩).length := by rw [List.length_set]; exact hm4
            have o6 := Own.put7 (j := 4) (u := .int .i64 n) (y := ⟨(L4.set n ⟨L4[n].x.rootTo t.length, L4[n].kv, L4[n].av⟩)[t.length].x.hostTo n, (L4.set n ⟨L4[n].x.rootTo t.length, L4[n].kv, L4[n].av⟩)[t.length].kv, (L4.set n ⟨L4[n].x.rootTo t.length, L4[n].kv, L4[n].av⟩)[t.length].av⟩) (by rw [List.length_set]; exact hl4) G5.out hm5 (by omega) rfl
            have G6 := G5.num (by rw [List.length_set]; have := hLl.out; omega) hm5 o6 (kpt_store (Kpt.refl _ _) hob) (by simpa [World.setCell] using hbw) ⟨rfl, rfl⟩ ⟨rfl, rfl⟩
            have hr6 := G6.reads (by rw [List.length_set, List.length_set]; have := hLl.out; omega)
            rw [List.map_set, List.map_set, hL4x] at hr6
            have hat : ((t ++ [freshN 3 0]).set n (L4[n].x.rootTo t.length)).set t.length ((L4.set n ⟨L4[n].x.rootTo t.length, L4[n].kv, L4[n].av⟩)[t.length].x.hostTo n) = atT t n := by
              have h1 : (L4.set n ⟨L4[n].x.rootTo t.length, L4[n].kv, L4[n].av⟩)[t.length].x = freshN 3 0 := by rw [List.getElem_set_ne (by omega)]; exact hxm
              rw [h1, hxn, List.set_append_left _ _ hnl, List.set_append_right _ _ (by rw [List.length_set]; omega)]
              simp only [List.length_set, Nat.sub_self, List.set_cons_zero, atT, freshN, Nd.hostTo]
              simp [hnl]
            simp only [] at hr6
            rw [hat] at hr6
            have hs6 : Stp w ((w4.setCell ⟨g, n * 7 + 5, none⟩ (.int .i64 t.length)).setCell ⟨g, t.length * 7 + 4, none⟩ (.int .i64 n)) := Stp.setCell (Stp.setCell hs4 (Nat.le_trans hs1.size hgb) _) (Nat.le_trans hs1.size hgb) _
            go_wp2_with fail
            refine bodyPost_ret (results_tmp3 rfl _ _ _) rfl ?_
            show MkRet _ _ _ _ (.returned (.tuple #[.slice (some ⟨g, 0, none⟩) (t.length + 1) cg, .int .i64 t.length, .int .i64 0])) _
            have HR := HE.out
            exact ⟨_, by rw [HR], .inr (by rw [HR]; exact hr6.mono fun k hk => Nat.le_trans hs1.size hk), hs6⟩
        · have hroz : (t[n].root != -1) = true := by simpa using hro
          have HE := Lib.hid (show atR t n = (t, 0, 6) by rw [atR, if_neg (by simp [HM.out]), if_neg (by simp [HN.out]), HD.out, if_neg (by simp [HK.out]), if_pos hro])
          clear hro
          go_enter Try.func13, Try.ntmps13
          go_wp2_with (first | (go_at_call 29; refine (cm _ Lime.stp_).mono ?_; rintro e w1 ⟨rfl, hb1⟩; (try replace k0 := hb1.cell k0); (try replace k5 := hb1.cell k5)) | (go_at_call 32; refine (ci _).mono ?_; rintro e w0 ⟨rfl, hb0⟩; (try replace k0 := hb0.cell k0); (try replace k5 := hb0.cell k5)))
          refine bodyPost_ret (results_tmp3 rfl _ _ _) rfl ?_
          exact mkRet_same HE.out Lime.stp_
      · have hkz : (t[n].kind != 1) = true := by simpa using hk
        have HE := Lib.hid (show atR t n = (t, 0, 3) by rw [atR, if_neg (by simp [HM.out]), if_neg (by simp [HN.out]), HD.out, if_pos hk])
        clear hk
        go_enter Try.func13, Try.ntmps13
        go_wp2_with (first | (go_at_call 29; refine (cm _ Lime.stp_).mono ?_; rintro e w1 ⟨rfl, hb1⟩; (try replace k0 := hb1.cell k0); (try replace k5 := hb1.cell k5)) | (go_at_call 32; refine (ci _).mono ?_; rintro e w0 ⟨rfl, hb0⟩; (try replace k0 := hb0.cell k0); (try replace k5 := hb0.cell k5)))
        refine bodyPost_ret (results_tmp3 rfl _ _ _) rfl ?_
        exact mkRet_same HE.out Lime.stp_
end Go.Proofs.Lime
