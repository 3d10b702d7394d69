/- Walk: a child taken out of its parent's kids. -/
import Derived.Test.YtclhmgchllenlaaTmk
namespace Go.Proofs.Lime
open Go.RowKit
set_option linter.unusedVariables false
set_option linter.unusedSimpArgs false
attribute [local go_sem] Oper.semAt_some
def Nd.kidsTo (x : Nd) (l : List Int) : Nd := { x with kids := l }
def Nd.parTo (x : Nd) (p : Int) : Nd := { x with parent := p }
/-- A list without a number. -/
def outI (n : Int) (l : List Int) : List Int := l.filter (fun k => !(k == n))
/-- A tree, a child taken out of its parent's kids. -/
def takeT (t : List Nd) (c : Nat) : List Nd :=
  if (t.getD c noNd).parent = -1 then t else
    let t1 := t.set (t.getD c noNd).parent.toNat ((t.getD (t.getD c noNd).parent.toNat noNd).kidsTo (outI c (t.getD (t.getD c noNd).parent.toNat noNd).kids))
    t1.set c ((t1.getD c noNd).parTo (-1))
theorem take1_c {W : World} {B : Nat} {n : Int} (h : W.cell? ⟨B, 0, none⟩ = some (.int .i64 n)) (x : Int) : Calls Try.prog 51 (#[.int .i64 x] ++ #[.pointer (some ⟨B, 0, none⟩)]) W fun e w' => e = .returned (.bool (x == n)) ∧ Stp W w' := by
  show Calls Try.prog 51 #[.int .i64 x, .pointer (some ⟨B, 0, none⟩)] W _
  go_enter Try.func51, Try.ntmps51
  go_wp2
  go_ret
  exact ⟨rfl, Stp.refl W⟩
theorem getD_x {L : List Nv} {i : Nat} (h : i < L.length) : (L.map Nv.x).getD i noNd = L[i].x := by simp [h]
set_option maxRecDepth 100000 in
set_option maxHeartbeats 4000000 in
theorem take_c {base : Nat} {R : Nat → Prop} {w : World} {v : Value} {L : List Nv} (G : Grove base R L.length w v L) {c : Nat} (hc : c < L.length) (hp : L[c].x.parent = -1 ∨ ∃ p : Nat, L[c].x.parent = p ∧ p < L.length) (hkl : ∀ i (h : i < L.length), L[i].x.kids.length ≤ 100000) (hb : base ≤ w.heap.size) :
    Calls Try.prog 34 #[v, .int .i64 c] w fun e w' => (∃ u, e = .returned u) ∧ ∃ L', L'.length = L.length ∧ Grove base R L.length w' v L' ∧ L'.map Nv.x = takeT (L.map Nv.x) c ∧ Kpt (fun k => base ≤ k) w w' := by
  have eg := (enters_of Try.func51 (by kernel_rfl) rfl)
  obtain ⟨g, cg, rfl, hob, hgb, hgl, hgc, hg63, ⟨cur, hcur, hcu⟩, hat⟩ := G.out.at7 (Nat.lt_of_le_of_lt (Nat.zero_le c) hc)
  have k2 := (hat c hc).c2
  have hcz : (c : Int) < (L.length : Int) := by omega
  have e1 : ∀ W : World, True := fun _ => trivial
  by_cases hpn : L[c].x.parent = -1
  · have HT := Lib.hid (show takeT (L.map Nv.x) c = L.map Nv.x by rw [takeT, getD_x hc, if_pos hpn])
    rw [hpn] at k2
    clear hpn hp hat
    go_enter Try.func34, Try.ntmps34
    have k2' := ((Stp.refl w).alloc (.cells #[.int .i64 c] 3)).cell k2
    clear k2
    go_wp2
    go_end0
    exact ⟨⟨_, rfl⟩, L, rfl, G.stp ((Stp.refl w).alloc _), HT.out.symm, Kpt.of_stp ((Stp.refl w).alloc _)⟩
  · obtain ⟨p, hpp, hpl⟩ := hp.resolve_left hpn
    have HT := Lib.hid (show takeT (L.map Nv.x) c = (((L.map Nv.x).set p (L[p].x.kidsTo (outI c L[p].x.kids))).set c ((((L.map Nv.x).set p (L[p].x.kidsTo (outI c L[p].x.kids))).getD c noNd).parTo (-1))) by
      rw [takeT, getD_x hc, if_neg hpn, hpp]
      simp only [Int.toNat_natCast]
      rw [getD_x hpl])
    rw [hpp] at k2
    have k3 := (hat p hpl).c3
    simp only [SV.val] at k3
    have hpnz : ((p : Int) != -1) = true := by simp
    have hpz : (p : Int) < (L.length : Int) := by omega
    have hin := (G.kid p hpl hpl).tight
    have hib := (G.kid p hpl hpl).blk
    have hkp := hkl p hpl
    have q3 := hcu p hpl 3 _ (by omega) rfl
    have q2 : ∃ u, cur[c * 7 + 2]? = some u := ⟨_, hcu c hc 2 _ (by omega) rfl⟩
    have HH := Lib.hid hpp
    have HC := Lib.hid hcu
    clear hpn hp hat hpp hcu
    simp only [SV.val] at hin hib q3
    generalize hkv : L[p].x.kids = xs at hin hkp
    have HX := Lib.hid hkv
    clear hkv
    have HP : ¬ (Value.slice L[p].kv.a L[p].kv.n L[p].kv.c).ownBlock = some w.heap.size := fun e => by have := own_lt (own_ints hin) _ e; omega
    have HG : ¬ (Value.slice L[p].kv.a L[p].kv.n L[p].kv.c).ownBlock = some g := fun e => (hib g e).2 hob
    have HPh := Lib.hid HP
    have HGh := Lib.hid HG
    have HIB := Lib.hid hib
    clear HP HG hib
    go_enter Try.func34, Try.ntmps34
    go_upto_region 3 with fail
    obtain ⟨w1, hw1, hs1, hz1, gx⟩ := box_named w #[.int .i64 c] 3
    have b0 := gx 0 _ rfl
    rw [hw1]
    replace k2 := hs1.cell k2
    replace k3 := hs1.cell k3
    replace hin := hin.stp hs1
    have hg1 := hs1.heap hcur
    clear hw1 gx
    go_upto_region 4 with (go_at_call 50; refine (show Calls Try.prog 50 _ _ _ from delFuncI_c hin (by omega) (· == (c : Int)) 51 #[.pointer (some ⟨w.heap.size, 0, none⟩)] eg (fun W x hW => take1_c (hW.cell (p := ⟨w.heap.size, 0, none⟩) HPh.out b0) x)).mono ?_; rintro e w2 ⟨v2, rfl, o2, hk2⟩; obtain ⟨A2, c2, rfl, _, _⟩ := o2.reads.form; have hg2 := (hk2.block g (by omega) HGh.out).trans hg1; obtain ⟨z3, f3⟩ := inC hg2 (p * 7 + 3) _ q3)
    have b2 := hk2.cell (p := ⟨w.heap.size, 0, none⟩) HPh.out b0
    have hz2 := hk2.size
    have o2' : Own intK 3 (fun k => (Value.slice L[p].kv.a L[p].kv.n L[p].kv.c).ownBlock = some k ∨ w1.heap.size ≤ k) w2 (.slice A2 (outI c xs).length c2) (outI c xs) := o2
    clear o2 z3 f3 k2 k3 b0
    obtain ⟨ys, hys⟩ : ∃ ys, outI c xs = ys := ⟨_, rfl⟩
    have HY := Lib.hid hys
    rw [hys] at o2'
    have hyd : List.filter (fun x => !(x == (c : Int))) xs = ys := hys
    rw [hyd]
    clear hyd hys
    obtain ⟨w3, hw3⟩ : ∃ w3, w2.setCell ⟨g, p * 7 + 3, none⟩ (.slice A2 ys.length c2) = w3 := ⟨_, rfl⟩
    have hg3 : w3.heap[g]? = some (.cells (cur.setIfInBounds (p * 7 + 3) (.slice A2 ys.length c2)) 49 (0, 0)) := by rw [← hw3]; exact blk_set hg2 _ _
    have hk3 : Kpt (fun k => k = g) w2 w3 := by rw [← hw3]; exact kpt_store (Kpt.refl _ _) rfl
    have b3 := hk3.cell (p := ⟨w.heap.size, 0, none⟩) (by show ¬ w.heap.size = g; omega) b2
    have hz3 := hk3.size
    have G1 := G.stp hs1
    have out2 := G1.out.tight7 (fun k => k = g) (fun k hk => by rw [hob] at hk; exact (Option.some.inj hk).symm)
    have out2' := Own.kpt out2 hk2 (fun k hk _ e => HGh.out (by rw [← hk]; exact e))
    have o3 := Own.put7 (j := 3) (u := .slice A2 ys.length c2) (y := ⟨L[p].x.kidsTo ys, ⟨A2, ys.length, c2⟩, L[p].av⟩) rfl (out2'.tight7 (fun k => base ≤ k) (fun k hk => by rw [hob] at hk; have := Option.some.inj hk; omega)) hpl (by omega) rfl
    rw [hw3] at o3
    have hk13 : Kpt (fun k => (Value.slice (some ⟨g, 0, none⟩) L.length cg).ownBlock = some k ∨ L[p].kv.val.ownBlock = some k) w1 w3 := (hk2.mono fun x hx => .inl (.inr hx)).trans hk3 fun x hx => .inl (.inl (by rw [hob, hx]))
    have G3 := G1.upd (Nat.le_refl _) hpl o3 hk13 (by omega) (o2'.kpt hk3 fun k hk _ e => by
      rcases hk with h | h
      · exact HGh.out (by rw [← e]; exact h)
      · omega) ⟨rfl, rfl⟩
    have hlc : c < (L.set p ⟨L[p].x.kidsTo ys, ⟨A2, ys.length, c2⟩, L[p].av⟩).length := by rw [List.length_set]; exact hc
    have hm3 : (L.set p ⟨L[p].x.kidsTo ys, ⟨A2, ys.length, c2⟩, L[p].av⟩).map Nv.x = (L.map Nv.x).set p (L[p].x.kidsTo ys) := by rw [List.map_set]
    have hl3 : (L.set p ⟨L[p].x.kidsTo ys, ⟨A2, ys.length, c2⟩, L[p].av⟩).length = L.length := List.length_set
    obtain ⟨q, hq⟩ := q2
    obtain ⟨z2, f2⟩ := inC hg3 (c * 7 + 2) q (by rw [Array.getElem?_setIfInBounds_ne (by omega)]; exact hq)
    have Hm3 := Lib.hid hm3
    have Hl3 := Lib.hid hl3
    have HG3 := Lib.hid G3
    have Hlc := Lib.hid hlc
    rw [hw3]
    clear G1 out2 out2' o3 hm3 hl3 G3 hlc hw3 hg2 hg1 o2' b2 q3 hq hin
    go_wp2_with fail
    go_end0
    have G3 := HG3.out
    have hm3 := Hm3.out
    have hl3 := Hl3.out
    have hlc := Hlc.out
    generalize L.set p ⟨L[p].x.kidsTo ys, ⟨A2, ys.length, c2⟩, L[p].av⟩ = L3 at G3 hm3 hl3 hlc
    have o4 := Own.put7 (j := 2) (u := .int .i64 (-1)) (y := ⟨L3[c].x.parTo (-1), L3[c].kv, L3[c].av⟩) hl3 G3.out hlc (by omega) rfl
    have G4 := G3.num (by omega) hlc o4 (kpt_store (Kpt.refl _ _) hob) (by omega) ⟨rfl, rfl⟩ ⟨rfl, rfl⟩
    refine ⟨⟨_, rfl⟩, _, by rw [List.length_set]; exact hl3, G4, ?_, ?_⟩
    · rw [List.map_set, HT.out, HX.out, HY.out, ← hm3, getD_x hlc]
    · have hk0 : Kpt (fun k => base ≤ k) w w1 := Kpt.of_stp hs1
      have h13 : Kpt (fun k => base ≤ k) w1 w3 := hk13.mono fun x hx => .inl (hx.elim (fun h => by rw [hob] at h; have := Option.some.inj h; omega) (fun h => (HIB.out x h).1))
      exact kpt_store (hk0.trans h13 fun x hx => .inl hx) hgb
end Go.Proofs.Lime
