/- Walk: the law WatchDrops. -/
import Derived.Test.YtpklhnggbhkmiaaWk
import Derived.Test.YtpklhnggbhkmiaaE18d
import Derived.Deep.Cut
namespace Go.Proofs.Lime
open Go.RowKit
set_option linter.unusedVariables false
set_option linter.unusedSimpArgs false
attribute [local go_sem] Oper.semAt_some
/-- What is held while all are dropped, one by one: who is left is among those behind. -/
structure DrSt (X : List (List Int)) (R : List Int) : Prop where mk ::
  some : ∀ g ∈ X, g ≠ []
  mem : ∀ e ∈ X.flatten, e ∈ R
  b : Go.Proofs.Ytpklhnggbhkmiaa.P.bd 60 X
theorem DrSt.next {X : List (List Int)} {e : Int} {R Q : List Int} (h : DrSt X (e :: R ++ Q)) : DrSt (dropG X e) (R ++ Q) := by
  refine ⟨fun g hg => Go.Proofs.Ytpklhnggbhkmiaa.P.drop_some hg, fun y hy => ?_, h.b.dropped e⟩
  obtain ⟨h1, h2⟩ := Go.Proofs.Ytpklhnggbhkmiaa.P.drop_mem.1 hy
  rcases List.mem_cons.1 (h.mem y h1) with h3 | h3
  · exact absurd h3 h2
  · exact h3
theorem DrSt.none {X : List (List Int)} (h : DrSt X ([] : List (List Int)).flatten) : X = [] := by
  cases X with
  | nil => rfl
  | cons g X =>
    have h1 := h.some g List.mem_cons_self
    cases g with
    | nil => exact absurd rfl h1
    | cons y g => exact absurd (h.mem y (by simp)) (by simp)
set_option maxRecDepth 100000 in
set_option maxHeartbeats 8000000 in
theorem drops_w {S : Nat → Prop} {W : World} {v : Value} {G : List (List Int)} (hr : Row intsK S W v G) (a : Int) (x : Bool) (n : Int) : Calls Try.prog 4 #[.agg #[v, .int .i64 a, .bool x], .int .i64 n] W fun e w' => e = .returned (.bool true) ∧ Stp W w' := by
  obtain ⟨A, c, rfl, hc, hm⟩ := hr.form
  have e0 : (W.alloc (.cells #[.slice A G.length c, .int .i64 a, .bool x] 33)).cell? ⟨W.heap.size, 0, none⟩ = some (.slice A G.length c) := box_at W _ _ 0 _ rfl
  have e1 : (W.alloc (.cells #[.slice A G.length c, .int .i64 a, .bool x] 33)).cell? ⟨W.heap.size, 1, none⟩ = some (.int .i64 a) := box_at W _ _ 1 _ rfl
  have e2 : (W.alloc (.cells #[.slice A G.length c, .int .i64 a, .bool x] 33)).cell? ⟨W.heap.size, 2, none⟩ = some (.bool x) := box_at W _ _ 2 _ rfl
  have cs := fun W' (h : Stp W W') => small_k (hr.stp h) a x
  cases hs : Go.Proofs.Ytpklhnggbhkmiaa.P.sm G with
  | false =>
    rw [hs] at cs
    go_enter Try.func4, Try.ntmps4
    go_wp2_with (first | (go_at_call 13; refine (cs _ Lime.stp_).mono ?_; rintro e w1 ⟨rfl, hb1⟩) | (go_at_call 8; refine (live_k _).mono ?_; rintro e w2 ⟨rfl, hb2⟩))
    go_ret
    exact ⟨rfl, by (exact Lime.stp_)⟩
  | true =>
    rw [hs] at cs
    have hb := Go.Proofs.Ytpklhnggbhkmiaa.P.sm_iff.1 hs
    have HB := Lib.hid hb
    have hok := hb.ok (by omega)
    have hgl := hb.1
    have hgi := Lib.hid hb.2
    have csame : ∀ (X Y : List (List Int)) {S1 S2 : Nat → Prop} (W4 : World) (A1 A2 : Option Addr) (n1 n2 c1 c2 : Nat), Row intsK S1 W4 (.slice A1 n1 c1) X → Row intsK S2 W4 (.slice A2 n2 c2) Y → Go.Proofs.Ytpklhnggbhkmiaa.P.bd 60 X → Calls Try.prog 16 #[.agg #[.slice A1 n1 c1, .int .i64 a, .bool x], .agg #[.slice A2 n2 c2, .int .i64 a, .bool x]] W4 fun e w' => e = .returned (.bool (decide (X = Y))) ∧ Stp W4 w' := fun X Y S1 S2 W4 A1 A2 n1 n2 c1 c2 h1 h2 hbx => by
      have := same_k h1 h2 (by have := hbx.1; omega) (fun g hg => by have := hbx.2 g hg; omega) a a x x
      rw [show decide (X = Y ∧ a = a ∧ x = x) = decide (X = Y) from decide_eq_decide.2 (by simp)] at this
      exact this
    have hDb := hb.dropped n
    clear hb hs
    go_enter Try.func4, Try.ntmps4
    go_wp2_with (go_at_call 13; refine (cs _ Lime.stp_).mono ?_; rintro e w1 ⟨rfl, hb1⟩; replace e0 := hb1.cell e0; replace e1 := hb1.cell e1; replace e2 := hb1.cell e2)
    have hsw1 : Stp W w1 := Stp.trans Lime.stp_ hb1
    have hBlt : W.heap.size < w1.heap.size := World.block_lt_of_cell? w1 ⟨W.heap.size, 0, none⟩ e0
    clear cs hb1
    go_loopw [5, 6] (fun s5 s6 W' => ∃ (z : Int) (i : Nat), s5 = .int .i64 z ∧ s6 = .int .i64 i ∧ i ≤ G.length ∧ Aside ((∀ j (h : j < G.length), j < i → G[j] ≠ [] ∧ n ∉ G[j]) ∧ Stp w1 W')) (fun _ s6 _ => G.length - (intOf s6).toNat)
    case atStart => exact ⟨0, 0, rfl, rfl, Nat.zero_le _, fun j h h' => absurd h' (by omega), Stp.refl _⟩
    case round =>
      obtain ⟨z, i, rfl, rfl, hi, HA⟩ := hrel
      obtain ⟨hcl, hst⟩ := HA.out
      clear HA
      have d0 := hst.cell e0
      have hswr := hsw1.trans hst
      by_cases hlt : i < G.length
      · have hltz : (i : Int) < (G.length : Int) := by omega
        obtain ⟨b, o, A', c', eA, _, _, z0, hri⟩ := ints_at2 (hr.stp hswr) i hlt
        have hgj := hgi.out _ (List.getElem_mem hlt)
        have hnx : G[i] ≠ [] → n ∉ G[i] → ∀ j (h : j < G.length), j < i + 1 → G[j] ≠ [] ∧ n ∉ G[j] := fun h1 h2 j h hj => by
          rcases Nat.lt_or_ge j i with h' | h'
          · exact hcl j h h'
          · obtain rfl : j = i := by omega
            exact ⟨h1, h2⟩
        have hmf : ∀ e, e ∈ G[i] → e ∈ G.flatten := fun e he => List.mem_flatten.2 ⟨_, List.getElem_mem hlt, he⟩
        generalize hgg : G[i] = g at z0 hri hgj hnx hmf
        have HX := Lib.hid hnx
        have HM := Lib.hid hmf
        subst eA
        clear hnx hmf hcl hgg
        by_cases hg0 : g.length = 0
        · go_wp2_with (go_at_call 8; refine (live_k _).mono ?_; rintro e w9 ⟨rfl, hb9⟩)
          go_ret
          exact ⟨rfl, by (exact Lime.stp_)⟩
        · have hg0z : ((g.length : Int) == 0) = false := by simpa using hg0
          go_wp2_with fail
          go_loopw [5, 7] (fun s5 s7 W' => ∃ (z : Int) (k : Nat), s5 = .int .i64 z ∧ s7 = .int .i64 k ∧ k ≤ g.length ∧ Aside ((∀ m (h : m < g.length), m < k → g[m] ≠ n) ∧ Stp wr W')) (fun _ s7 _ => g.length - (intOf s7).toNat)
          case atStart => exact ⟨z, 0, rfl, rfl, Nat.zero_le _, fun j h h' => absurd h' (by omega), Stp.refl _⟩
          case round =>
            obtain ⟨z2, k, rfl, rfl, hk, HA⟩ := hrel
            obtain ⟨hck, hst2⟩ := HA.out
            clear HA
            replace d0 := hst2.cell d0
            have d1 := (hst.trans hst2).cell e1
            have d2 := (hst.trans hst2).cell e2
            have z1 := hst2.cell z0
            have hri2 := hri.stp hst2
            have hsw2 := hswr.trans hst2
            by_cases hlk : k < g.length
            · have hlkz : (k : Int) < (g.length : Int) := by omega
              obtain ⟨b1, o1, rfl, _, _, q0⟩ := int_at hri2 k hlk
              have hgk := HM.out _ (List.getElem_mem hlk)
              have hnk : g[k] ≠ n → ∀ m (h : m < g.length), m < k + 1 → g[m] ≠ n := fun h1 m h hm => by
                rcases Nat.lt_or_ge m k with h' | h'
                · exact hck m h h'
                · obtain rfl : m = k := by omega
                  exact h1
              generalize g[k] = e at q0 hgk hnk
              have HK := Lib.hid hnk
              clear hnk hck
              by_cases hen : e = n
              · subst hen
                have HXe := Lib.hid (Go.Proofs.Ytpklhnggbhkmiaa.P.drop_ne hgk)
                have HXi := Lib.hid (Go.Proofs.Ytpklhnggbhkmiaa.P.drop_idem G e)
                have cdr := fun W' (h : Stp W W') => drop_k (hr.stp h) hok a x e
                generalize dropG G e = X at cdr hDb HXe HXi
                clear HX HM HK hgk z0 hri2 hri
                go_upto_region 15 with (first | (go_at_call 15; refine (own_k _ _ _ _ _ _).mono ?_; rintro e w2 ⟨rfl, hb2⟩; replace d0 := hb2.cell d0; replace d1 := hb2.cell d1; replace d2 := hb2.cell d2) | (go_at_call 14; refine (cdr _ Lime.stp_).mono ?_; rintro e w3 ⟨A3, c3, rfl, r3, hb3⟩; replace d0 := hb3.cell d0; replace d1 := hb3.cell d1; replace d2 := hb3.cell d2; have hsw3 : Stp W w3 := Stp.trans Lime.stp_ hb3))
                obtain ⟨w4, hw4⟩ : ∃ w4, w3.alloc (.cells #[.slice A3 X.length c3, .int .i64 a, .bool x] 26) = w4 := ⟨_, rfl⟩
                have hs4 : Stp w3 w4 := by rw [← hw4]; exact (Stp.refl w3).alloc _
                have hy : w4.heap[w3.heap.size]? = some (.cells #[.slice A3 X.length c3, .int .i64 a, .bool x] 26 (0, 0)) := by rw [← hw4]; exact World.alloc_heap_new w3 _
                rw [hw4]
                clear hw4
                replace d0 := hs4.cell d0
                replace d1 := hs4.cell d1
                replace d2 := hs4.cell d2
                obtain ⟨y0, _⟩ := in_block hy 0 _ rfl
                obtain ⟨y1, _⟩ := in_block hy 1 _ rfl
                obtain ⟨y2, _⟩ := in_block hy 2 _ rfl
                have r4 := r3.stp hs4
                have hsw4 := hsw3.trans hs4
                have cs1 : ∀ W', Stp w4 W' → Calls Try.prog 16 #[.agg #[.slice A3 X.length c3, .int .i64 a, .bool x], .agg #[.slice (some ⟨b, o, none⟩) G.length c, .int .i64 a, .bool x]] W' fun e w' => e = .returned (.bool false) ∧ Stp W' w' := fun W' h => by
                  have := csame X G W' A3 (some ⟨b, o, none⟩) X.length G.length c3 c (r4.stp h) (hr.stp (hsw4.trans h)) hDb
                  rw [decide_eq_false HXe.out] at this
                  exact this
                have cd1 : ∀ W', Stp w4 W' → Calls Try.prog 14 #[.agg #[.slice A3 X.length c3, .int .i64 a, .bool x], .int .i64 e] W' fun e w' => ∃ A' c', e = .returned (.agg #[.slice A' X.length c', .int .i64 a, .bool x]) ∧ Row intsK (fun k => W'.heap.size ≤ k) w' (.slice A' X.length c') X ∧ Stp W' w' := fun W' h => by
                  have := drop_k (r4.stp h) (hDb.ok (by omega)) a x e
                  rw [HXi.out] at this
                  exact this
                have cs2 : ∀ (A8 : Option Addr) (c8 : Nat) (S8 : Nat → Prop) W', Row intsK S8 W' (.slice A8 X.length c8) X → Stp w4 W' → Calls Try.prog 16 #[.agg #[.slice A8 X.length c8, .int .i64 a, .bool x], .agg #[.slice A3 X.length c3, .int .i64 a, .bool x]] W' fun e w' => e = .returned (.bool true) ∧ Stp W' w' := fun A8 c8 S8 W' h8 h => by
                  have := csame X X W' A8 A3 X.length X.length c8 c3 h8 (r4.stp h) hDb
                  rw [decide_eq_true rfl] at this
                  exact this
                clear csame HXe HXi hy r3 cdr
                refine wp_region_noPanic ?_
                refine Go.Proofs.YtpklhnggbhkmiaaW.PrintLast.start_ (n := 18) (S := fun W_ => Stp w4 W_) (ds := []) #[false, false, false, false, false, false, false, false, false, false, false, false, false, false, false, false, false, false] (by kernel_rfl) rfl (by kernel_rfl) (Stp.refl _).drew (fun hS => ?_)
                refine Go.Proofs.YtpklhnggbhkmiaaW.PrintLast.take_ (i := 0) (v := ?_) (a' := ?_) #[true, false, false, false, false, false, false, false, false, false, false, false, false, false, false, false, false, false] Lime.getop_ rfl (by kernel_rfl) (fun _ _ _ h => h) (Or.inl ⟨by rfl, ?_⟩) hS ?_ ?_
                rotate_left
                focus (intro w_ hw_; have q0_ := hw_.cell y0; have q1_ := hw_.cell y1; have q2_ := hw_.cell y2; have q3_ := hw_.cell d0; have q4_ := hw_.cell d1; have q5_ := hw_.cell d2; (exact Lime.calm_))
                rotate_left
                focus (simp only [Act.put, List.setIfInBounds_toArray, List.set_cons_zero, List.set_cons_succ]; first | done | rfl)
                refine Go.Proofs.YtpklhnggbhkmiaaW.PrintLast.take_ (i := 2) (v := ?_) (a' := ?_) #[true, false, true, false, false, false, false, false, false, false, false, false, false, false, false, false, false, false] Lime.getop_ rfl (by kernel_rfl) (fun _ _ _ h => h) (Or.inl ⟨by rfl, ?_⟩) hS ?_ ?_
                rotate_left
                focus (intro w_ hw_; have q0_ := hw_.cell y0; have q1_ := hw_.cell y1; have q2_ := hw_.cell y2; have q3_ := hw_.cell d0; have q4_ := hw_.cell d1; have q5_ := hw_.cell d2; (exact Lime.calm_))
                rotate_left
                focus (simp only [Act.put, List.setIfInBounds_toArray, List.set_cons_zero, List.set_cons_succ]; first | done | rfl)
                refine Go.Proofs.YtpklhnggbhkmiaaW.PrintLast.one_ (i := 1) #[true, true, true, false, false, false, false, false, false, false, false, false, false, false, false, false, false, false] Lime.getop_ rfl (by kernel_rfl) (by decide) (fun K hK => ?_)
                rw [if_pos (by rfl)]; go_simp; refine (told_k _ _ _ _ _ _).mono ?_; rintro e w5 ⟨rfl, hb5⟩
                refine hK.out _ _ Lime.stp_ (fun hst => ?_); replace hS := hst
                clear hK K
                (try simp only [Act.put, List.setIfInBounds_toArray, List.set_cons_zero, List.set_cons_succ])
                refine Go.Proofs.YtpklhnggbhkmiaaW.PrintLast.one_ (i := 3) #[true, true, true, true, false, false, false, false, false, false, false, false, false, false, false, false, false, false] Lime.getop_ rfl (by kernel_rfl) (by decide) (fun K hK => ?_)
                rw [if_pos (by rfl)]; go_simp; refine (show Calls Try.prog 16 _ _ _ from cs1 _ Lime.stp_).mono ?_; rintro e w6 ⟨rfl, hb6⟩
                refine hK.out _ _ Lime.stp_ (fun hst => ?_); replace hS := hst
                clear hK K
                (try simp only [Act.put, List.setIfInBounds_toArray, List.set_cons_zero, List.set_cons_succ])
                refine Go.Proofs.YtpklhnggbhkmiaaW.PrintLast.pure_ (i := 4) (v := ?_) (a' := ?_) #[true, true, true, true, true, false, false, false, false, false, false, false, false, false, false, false, false, false] Lime.getop_ rfl (by kernel_rfl) (fun _ _ _ h => h) (Or.inl ⟨by rfl, ?_⟩) ?_ ?_
                rotate_left
                focus (intro w_; (exact Lime.calm_))
                rotate_left
                focus (simp only [Act.put, List.setIfInBounds_toArray, List.set_cons_zero, List.set_cons_succ]; first | done | rfl)
                refine Go.Proofs.YtpklhnggbhkmiaaW.PrintLast.pure_ (i := 5) (v := ?_) (a' := ?_) #[true, true, true, true, true, true, false, false, false, false, false, false, false, false, false, false, false, false] Lime.getop_ rfl (by kernel_rfl) (fun _ _ _ h => h) (Or.inl ⟨by rfl, ?_⟩) ?_ ?_
                rotate_left
                focus (intro w_; (exact Lime.calm_))
                rotate_left
                focus (simp only [Act.put, List.setIfInBounds_toArray, List.set_cons_zero, List.set_cons_succ]; first | done | rfl)
                refine Go.Proofs.YtpklhnggbhkmiaaW.PrintLast.pure_ (i := 7) (v := ?_) (a' := ?_) #[true, true, true, true, true, true, false, true, false, false, false, false, false, false, false, false, false, false] Lime.getop_ rfl (by kernel_rfl) (fun _ _ _ h => h) (Or.inl ⟨by rfl, ?_⟩) ?_ ?_
                rotate_left
                focus (intro w_; (exact Lime.calm_))
                rotate_left
                focus (simp only [Act.put, List.setIfInBounds_toArray, List.set_cons_zero, List.set_cons_succ]; first | done | rfl)
                refine Go.Proofs.YtpklhnggbhkmiaaW.PrintLast.take_ (i := 6) (v := ?_) (a' := ?_) #[true, true, true, true, true, true, true, true, false, false, false, false, false, false, false, false, false, false] Lime.getop_ rfl (by kernel_rfl) (fun _ _ _ h => h) (Or.inl ⟨by rfl, ?_⟩) hS ?_ ?_
                rotate_left
                focus (intro w_ hw_; have q0_ := hw_.cell y0; have q1_ := hw_.cell y1; have q2_ := hw_.cell y2; have q3_ := hw_.cell d0; have q4_ := hw_.cell d1; have q5_ := hw_.cell d2; (exact Lime.calm_))
                rotate_left
                focus (simp only [Act.put, List.setIfInBounds_toArray, List.set_cons_zero, List.set_cons_succ]; first | done | rfl)
                refine Go.Proofs.YtpklhnggbhkmiaaW.PrintLast.take_ (i := 10) (v := ?_) (a' := ?_) #[true, true, true, true, true, true, true, true, false, false, true, false, false, false, false, false, false, false] Lime.getop_ rfl (by kernel_rfl) (fun _ _ _ h => h) (Or.inl ⟨by rfl, ?_⟩) hS ?_ ?_
                rotate_left
                focus (intro w_ hw_; have q0_ := hw_.cell y0; have q1_ := hw_.cell y1; have q2_ := hw_.cell y2; have q3_ := hw_.cell d0; have q4_ := hw_.cell d1; have q5_ := hw_.cell d2; (exact Lime.calm_))
                rotate_left
                focus (simp only [Act.put, List.setIfInBounds_toArray, List.set_cons_zero, List.set_cons_succ]; first | done | rfl)
                refine Go.Proofs.YtpklhnggbhkmiaaW.PrintLast.one_ (i := 8) #[true, true, true, true, true, true, true, true, true, false, true, false, false, false, false, false, false, false] Lime.getop_ rfl (by kernel_rfl) (by decide) (fun K hK => ?_)
                rw [if_pos (by rfl)]; go_simp; refine (show Calls Try.prog 14 _ _ _ from cd1 _ Lime.stp_).mono ?_; rintro e w8 ⟨A8, c8, rfl, r8, hb8⟩
                refine hK.out _ _ Lime.stp_ (fun hst => ?_); replace hS := hst
                clear hK K
                (try simp only [Act.put, List.setIfInBounds_toArray, List.set_cons_zero, List.set_cons_succ])
                refine Go.Proofs.YtpklhnggbhkmiaaW.PrintLast.one_ (i := 9) #[true, true, true, true, true, true, true, true, true, true, true, false, false, false, false, false, false, false] Lime.getop_ rfl (by kernel_rfl) (by decide) (fun K hK => ?_)
                rw [if_pos (by rfl)]; go_simp; refine (told_k _ _ _ _ _ _).mono ?_; rintro e w9 ⟨rfl, hb9⟩
                refine hK.out _ _ Lime.stp_ (fun hst => ?_); replace hS := hst
                clear hK K
                (try simp only [Act.put, List.setIfInBounds_toArray, List.set_cons_zero, List.set_cons_succ])
                refine Go.Proofs.YtpklhnggbhkmiaaW.PrintLast.one_ (i := 11) #[true, true, true, true, true, true, true, true, true, true, true, true, false, false, false, false, false, false] Lime.getop_ rfl (by kernel_rfl) (by decide) (fun K hK => ?_)
                rw [if_pos (by rfl)]; go_simp; refine (told_k _ _ _ _ _ _).mono ?_; rintro e w11 ⟨rfl, hb11⟩
                refine hK.out _ _ Lime.stp_ (fun hst => ?_); replace hS := hst
                clear hK K
                (try simp only [Act.put, List.setIfInBounds_toArray, List.set_cons_zero, List.set_cons_succ])
                refine Go.Proofs.YtpklhnggbhkmiaaW.PrintLast.one_ (i := 12) #[true, true, true, true, true, true, true, true, true, true, true, true, true, false, false, false, false, false] Lime.getop_ rfl (by kernel_rfl) (by decide) (fun K hK => ?_)
                rw [if_pos (by rfl)]; go_simp; refine (show Calls Try.prog 16 _ _ _ from cs2 _ _ _ _ (r8.stp (hb9.trans hb11)) hS).mono ?_; rintro e w12 ⟨rfl, hb12⟩
                refine hK.out _ _ Lime.stp_ (fun hst => ?_); replace hS := hst
                clear hK K
                (try simp only [Act.put, List.setIfInBounds_toArray, List.set_cons_zero, List.set_cons_succ])
                refine Go.Proofs.YtpklhnggbhkmiaaW.PrintLast.pure_ (i := 13) (v := ?_) (a' := ?_) #[true, true, true, true, true, true, true, true, true, true, true, true, true, true, false, false, false, false] Lime.getop_ rfl (by kernel_rfl) (fun _ _ _ h => h) (Or.inl ⟨by rfl, ?_⟩) ?_ ?_
                rotate_left
                focus (intro w_; (exact Lime.calm_))
                rotate_left
                focus (simp only [Act.put, List.setIfInBounds_toArray, List.set_cons_zero, List.set_cons_succ]; first | done | rfl)
                refine Go.Proofs.YtpklhnggbhkmiaaW.PrintLast.pure_ (i := 14) (v := ?_) (a' := ?_) #[true, true, true, true, true, true, true, true, true, true, true, true, true, true, true, false, false, false] Lime.getop_ rfl (by kernel_rfl) (fun _ _ _ h => h) (Or.inl ⟨by rfl, ?_⟩) ?_ ?_
                rotate_left
                focus (intro w_; (exact Lime.calm_))
                rotate_left
                focus (simp only [Act.put, List.setIfInBounds_toArray, List.set_cons_zero, List.set_cons_succ]; first | done | rfl)
                refine Go.Proofs.YtpklhnggbhkmiaaW.PrintLast.one_ (i := 15) #[true, true, true, true, true, true, true, true, true, true, true, true, true, true, true, true, false, false] Lime.getop_ rfl (by kernel_rfl) (by decide) (fun K hK => ?_)
                rw [if_pos (by rfl)]; go_simp; refine (live_k _).mono ?_; rintro e w15 ⟨rfl, hb15⟩
                refine hK.out _ _ Lime.stp_ (fun hst => ?_); replace hS := hst
                clear hK K
                (try simp only [Act.put, List.setIfInBounds_toArray, List.set_cons_zero, List.set_cons_succ])
                refine Go.Proofs.YtpklhnggbhkmiaaW.PrintLast.pure_ (i := 16) (v := ?_) (a' := ?_) #[true, true, true, true, true, true, true, true, true, true, true, true, true, true, true, true, true, false] Lime.getop_ rfl (by kernel_rfl) (fun _ _ _ h => h) (Or.inl ⟨by rfl, ?_⟩) ?_ ?_
                rotate_left
                focus (intro w_; (exact Lime.calm_))
                rotate_left
                focus (simp only [Act.put, List.setIfInBounds_toArray, List.set_cons_zero, List.set_cons_succ]; first | done | rfl)
                refine Go.Proofs.YtpklhnggbhkmiaaW.PrintLast.pure_ (i := 17) (v := ?_) (a' := ?_) #[true, true, true, true, true, true, true, true, true, true, true, true, true, true, true, true, true, true] Lime.getop_ rfl (by kernel_rfl) (fun _ _ _ h => h) (Or.inl ⟨by rfl, ?_⟩) ?_ ?_
                rotate_left
                focus (intro w_; (exact Lime.calm_))
                rotate_left
                focus (simp only [Act.put, List.setIfInBounds_toArray, List.set_cons_zero, List.set_cons_succ]; first | done | rfl)
                refine Go.Proofs.YtpklhnggbhkmiaaW.PrintLast.done_ (by kernel_rfl) (noPanic_n ?_)
                go_wp2
                go_ret
                exact ⟨rfl, hsw4.trans hS⟩
              · have henb : (e == n) = false := by simpa using hen
                go_wp2_with fail
                go_roundw
                case rel => exact ⟨_, k + 1, rfl, by go_num, hlk, HK.out hen, hst2.trans Lime.stp_⟩
                case measure => simp [intOf]; omega
            · have hlkz : ¬ (k : Int) < (g.length : Int) := by omega
              have hnn : n ∉ g := fun h => by
                obtain ⟨m, hm1, hm2⟩ := List.getElem_of_mem h
                exact hck m hm1 (by omega) hm2
              have hgn : g ≠ [] := fun e => hg0 (by rw [e]; rfl)
              go_wp2_with fail
              go_roundw
              case rel => exact ⟨_, i + 1, rfl, by go_num, hlt, HX.out hgn hnn, hst.trans (hst2.trans Lime.stp_)⟩
              case measure => simp [intOf]; omega
      · have hltz : ¬ (i : Int) < (G.length : Int) := by omega
        have hall : ∀ g ∈ G, g ≠ [] ∧ n ∉ g := fun g hg => by
          obtain ⟨j, hj, rfl⟩ := List.getElem_of_mem hg
          exact hcl j hj (by omega)
        have HA := Lib.hid hall
        have hdo := Go.Proofs.Ytpklhnggbhkmiaa.P.drop_open a hall
        have hOb := HB.out.opened a n
        have co := fun W' (h : Stp W W') => open_k (hr.stp h) hok a x n
        have cd := fun (W' : World) (A' : Option Addr) (c' : Nat) (S' : Nat → Prop) (h : Row intsK S' W' (.slice A' (openG G a n).length c') (openG G a n)) => drop_k h (hOb.ok (by omega)) a true n
        rw [hdo] at cd
        have d1 := hst.cell e1
        have d2 := hst.cell e2
        generalize openG G a n = H at co cd hOb
        clear hcl hall hdo hDb e0 e1 e2
        go_upto_region 17 with (first | (go_at_call 15; refine (own_k _ _ _ _ _ _).mono ?_; rintro e w2 ⟨rfl, hb2⟩; replace d0 := hb2.cell d0; replace d1 := hb2.cell d1; replace d2 := hb2.cell d2) | (go_at_call 11; refine (co _ (hswr.trans Lime.stp_)).mono ?_; rintro e w3 ⟨A3, c3, rfl, r3, hb3⟩; replace d0 := hb3.cell d0; replace d1 := hb3.cell d1; replace d2 := hb3.cell d2) | (go_at_call 14; refine (cd _ _ _ _ r3).mono ?_; rintro e w4 ⟨A4, c4, rfl, r4, hb4⟩; replace d0 := hb4.cell d0; replace d1 := hb4.cell d1; replace d2 := hb4.cell d2; have hsw4 : Stp W w4 := hswr.trans (Stp.trans Lime.stp_ hb4); have hlt4 : W.heap.size < w4.heap.size := World.block_lt_of_cell? w4 ⟨W.heap.size, 0, none⟩ d0))
        obtain ⟨w5, hw5⟩ : ∃ w5, w4.alloc (.cells #[.slice A4 G.length c4, .int .i64 a, .bool true] 26) = w5 := ⟨_, rfl⟩
        have hs5 : Stp w4 w5 := by rw [← hw5]; exact (Stp.refl w4).alloc _
        have hy : w5.heap[w4.heap.size]? = some (.cells #[.slice A4 G.length c4, .int .i64 a, .bool true] 26 (0, 0)) := by rw [← hw5]; exact World.alloc_heap_new w4 _
        rw [hw5]
        clear hw5
        replace d0 := hs5.cell d0
        replace d1 := hs5.cell d1
        replace d2 := hs5.cell d2
        obtain ⟨y2, f2⟩ := in_block hy 2 _ rfl
        go_upto_region 18 with fail
        obtain ⟨w6, hw6⟩ : ∃ w6, w5.setCell ⟨w4.heap.size, 2, none⟩ (.bool x) = w6 := ⟨_, rfl⟩
        have hy6 : w6.heap[w4.heap.size]? = some (.cells #[.slice A4 G.length c4, .int .i64 a, .bool x] 26 (0, 0)) := by rw [← hw6]; exact set_block hy 2 _
        have hs6 : Stp w4 w6 := by rw [← hw6]; exact hs5.setCell (Nat.le_refl _) _
        have hk6 : Kpt (fun k => k = w4.heap.size) w5 w6 := by rw [← hw6]; exact kpt_store (Kpt.refl _ _) rfl
        replace d0 := hk6.cell (p := ⟨W.heap.size, 0, none⟩) (by show ¬ W.heap.size = w4.heap.size; omega) d0
        replace d1 := hk6.cell (p := ⟨W.heap.size, 1, none⟩) (by show ¬ W.heap.size = w4.heap.size; omega) d1
        replace d2 := hk6.cell (p := ⟨W.heap.size, 2, none⟩) (by show ¬ W.heap.size = w4.heap.size; omega) d2
        rw [hw6]
        clear hw6 y2 f2 hk6 co cd hy r3
        obtain ⟨y0, _⟩ := in_block hy6 0 _ rfl
        obtain ⟨y1, _⟩ := in_block hy6 1 _ rfl
        obtain ⟨y2, _⟩ := in_block hy6 2 _ rfl
        have r6 := (r4.bound.stp hs6).mono (S' := fun k => k ≠ w4.heap.size) fun k hk => by have := hk.2; omega
        have hsw6 := hsw4.trans hs6
        have cs3 : ∀ W', Stp w6 W' → Calls Try.prog 16 #[.agg #[.slice A4 G.length c4, .int .i64 a, .bool x], .agg #[.slice A G.length c, .int .i64 a, .bool x]] W' fun e w' => e = .returned (.bool true) ∧ Stp W' w' := fun W' h => by
          have := csame G G W' A4 A G.length G.length c4 c (r6.stp h) (hr.stp (hsw6.trans h)) HB.out
          rw [decide_eq_true rfl] at this
          exact this
        clear csame r4
        refine wp_region_noPanic ?_
        refine Go.Proofs.YtpklhnggbhkmiaaW.PrintLast.start_ (n := 5) (S := fun W_ => Stp w6 W_) (ds := []) #[false, false, false, false, false] (by kernel_rfl) rfl (by kernel_rfl) (Stp.refl _).drew (fun hS => ?_)
        refine Go.Proofs.YtpklhnggbhkmiaaW.PrintLast.take_ (i := 0) (v := ?_) (a' := ?_) #[true, false, false, false, false] Lime.getop_ rfl (by kernel_rfl) (fun _ _ _ h => h) (Or.inl ⟨by rfl, ?_⟩) hS ?_ ?_
        rotate_left
        focus (intro w_ hw_; have q0_ := hw_.cell y0; have q1_ := hw_.cell y1; have q2_ := hw_.cell y2; have q3_ := hw_.cell d0; have q4_ := hw_.cell d1; have q5_ := hw_.cell d2; (exact Lime.calm_))
        rotate_left
        focus (simp only [Act.put, List.setIfInBounds_toArray, List.set_cons_zero, List.set_cons_succ]; first | done | rfl)
        refine Go.Proofs.YtpklhnggbhkmiaaW.PrintLast.take_ (i := 2) (v := ?_) (a' := ?_) #[true, false, true, false, false] Lime.getop_ rfl (by kernel_rfl) (fun _ _ _ h => h) (Or.inl ⟨by rfl, ?_⟩) hS ?_ ?_
        rotate_left
        focus (intro w_ hw_; have q0_ := hw_.cell y0; have q1_ := hw_.cell y1; have q2_ := hw_.cell y2; have q3_ := hw_.cell d0; have q4_ := hw_.cell d1; have q5_ := hw_.cell d2; (exact Lime.calm_))
        rotate_left
        focus (simp only [Act.put, List.setIfInBounds_toArray, List.set_cons_zero, List.set_cons_succ]; first | done | rfl)
        refine Go.Proofs.YtpklhnggbhkmiaaW.PrintLast.one_ (i := 1) #[true, true, true, false, false] Lime.getop_ rfl (by kernel_rfl) (by decide) (fun K hK => ?_)
        rw [if_pos (by rfl)]; go_simp; refine (told_k _ _ _ _ _ _).mono ?_; rintro e w7 ⟨rfl, hb7⟩
        refine hK.out _ _ Lime.stp_ (fun hst => ?_); replace hS := hst
        clear hK K
        (try simp only [Act.put, List.setIfInBounds_toArray, List.set_cons_zero, List.set_cons_succ])
        refine Go.Proofs.YtpklhnggbhkmiaaW.PrintLast.one_ (i := 3) #[true, true, true, true, false] Lime.getop_ rfl (by kernel_rfl) (by decide) (fun K hK => ?_)
        rw [if_pos (by rfl)]; go_simp; refine (show Calls Try.prog 16 _ _ _ from cs3 _ Lime.stp_).mono ?_; rintro e w8 ⟨rfl, hb8⟩
        refine hK.out _ _ Lime.stp_ (fun hst => ?_); replace hS := hst
        clear hK K
        (try simp only [Act.put, List.setIfInBounds_toArray, List.set_cons_zero, List.set_cons_succ])
        refine Go.Proofs.YtpklhnggbhkmiaaW.PrintLast.pure_ (i := 4) (v := ?_) (a' := ?_) #[true, true, true, true, true] Lime.getop_ rfl (by kernel_rfl) (fun _ _ _ h => h) (Or.inl ⟨by rfl, ?_⟩) ?_ ?_
        rotate_left
        focus (intro w_; (exact Lime.calm_))
        rotate_left
        focus (simp only [Act.put, List.setIfInBounds_toArray, List.set_cons_zero, List.set_cons_succ]; first | done | rfl)
        refine Go.Proofs.YtpklhnggbhkmiaaW.PrintLast.done_ (by kernel_rfl) (noPanic_n ?_)
        have hS8 := hS
        replace d0 := hS8.cell d0
        have hy8 := hS8.heap hy6
        have r8 := r6.stp hS8
        have hsw8 := hsw6.trans hS8
        have hz8 := hS8.size
        clear y0 y1 y2 d1 d2 hy6 r6 cs3 hS
        go_upto_region 20 with fail
        have DS0 : DrSt G ((G.drop 0).flatten) := ⟨fun g hg => (HA.out g hg).1, fun e he => he, HB.out⟩
        clear hok hOb
        go_wp2_with fail
        go_loopw [10] (fun s10 W' => ∃ (i : Nat) (X : List (List Int)) (AX : Option Addr) (cX : Nat), s10 = .int .i64 i ∧ i ≤ G.length ∧ Aside (DrSt X ((G.drop i).flatten) ∧ Row intsK (fun k => k ≠ w4.heap.size) W' (.slice AX X.length cX) X ∧ W'.heap[w4.heap.size]? = some (.cells #[.slice AX X.length cX, .int .i64 a, .bool x] 26 (0, 0)) ∧ Kpt (fun k => k = w4.heap.size) w8 W')) (fun s10 _ => G.length - (intOf s10).toNat)
        case atStart => exact ⟨0, G, A4, c4, rfl, Nat.zero_le _, DS0, r8, hy8, Kpt.refl _ _⟩
        case round =>
          obtain ⟨i2, X, AX, cX, rfl, hi2, HQ⟩ := hrel
          obtain ⟨DS, rX, hyX, hK⟩ := HQ.out
          clear HQ DS0 r8 hy8
          have hn1 : ¬ W.heap.size = w4.heap.size := by omega
          have d0r := hK.cell (p := ⟨W.heap.size, 0, none⟩) hn1 d0
          by_cases hlt2 : i2 < G.length
          · have hltz2 : (i2 : Int) < (G.length : Int) := by omega
            obtain ⟨b, o, A', c', eA, _, _, z0, hri⟩ := ints_at2 hr i2 hlt2
            have hgj := hgi.out _ (List.getElem_mem hlt2)
            have hfl : (G.drop i2).flatten = G[i2] ++ (G.drop (i2 + 1)).flatten := by rw [List.drop_eq_getElem_cons hlt2, List.flatten_cons]
            rw [hfl] at DS
            generalize G[i2] = g at z0 hri hgj DS
            subst eA
            clear hfl
            go_wp2_with fail
            go_loopw [11] (fun s11 W' => ∃ (k : Nat) (X : List (List Int)) (AX : Option Addr) (cX : Nat), s11 = .int .i64 k ∧ k ≤ g.length ∧ Aside (DrSt X (g.drop k ++ (G.drop (i2 + 1)).flatten) ∧ Row intsK (fun k => k ≠ w4.heap.size) W' (.slice AX X.length cX) X ∧ W'.heap[w4.heap.size]? = some (.cells #[.slice AX X.length cX, .int .i64 a, .bool x] 26 (0, 0)) ∧ Kpt (fun k => k = w4.heap.size) w8 W')) (fun s11 _ => g.length - (intOf s11).toNat)
            case atStart => exact ⟨0, X, AX, cX, rfl, Nat.zero_le _, DS, rX, hyX, hK⟩
            case round =>
              clear DS rX hyX hK d0r
              obtain ⟨k, X, AX, cX, rfl, hk, HQ⟩ := hrel
              obtain ⟨DS, rX, hyX, hK⟩ := HQ.out
              clear HQ
              have d0r := hK.cell (p := ⟨W.heap.size, 0, none⟩) hn1 d0
              have hswr2 : Stp W wr := ((Kpt.of_stp (O := fun k => k = w4.heap.size) hsw8).trans hK fun x hx => .inl hx).stp fun x hx => by omega
              have z1 := hswr2.cell z0
              by_cases hlk : k < g.length
              · have hlkz : (k : Int) < (g.length : Int) := by omega
                obtain ⟨b1, o1, rfl, _, _, q0⟩ := int_at (hri.stp hswr2) k hlk
                rw [List.drop_eq_getElem_cons hlk] at DS
                generalize g[k] = e at q0 DS
                obtain ⟨y0, _⟩ := in_block hyX 0 _ rfl
                obtain ⟨y1, _⟩ := in_block hyX 1 _ rfl
                obtain ⟨y2, _⟩ := in_block hyX 2 _ rfl
                have hBl := (Array.getElem?_eq_some_iff.1 hyX).1
                have hXok := DS.b.ok (by omega)
                have cdx := fun W' (h : Stp wr W') => drop_k (rX.stp h) hXok a x e
                have DS2 := Lib.hid (DS.next)
                clear DS
                generalize dropG X e = X' at cdx DS2
                go_wp2_with fail
                refine wp_region_noPanic ?_
                refine Go.Proofs.YtpklhnggbhkmiaaW.PrintLast.start_ (n := 11) (S := fun W_ => Stp wr W_) (ds := [10]) #[false, false, false, false, false, false, false, false, false, false, false] (by kernel_rfl) rfl (by kernel_rfl) (Stp.refl _).drew (fun hS => ?_)
                refine Go.Proofs.YtpklhnggbhkmiaaW.PrintLast.pure_ (i := 1) (v := ?_) (a' := ?_) #[false, true, false, false, false, false, false, false, false, false, false] Lime.getop_ rfl (by kernel_rfl) (fun _ _ _ h => h) (Or.inl ⟨by rfl, ?_⟩) ?_ ?_
                rotate_left
                focus (intro w_; (exact Lime.calm_))
                rotate_left
                focus (simp only [Act.put, List.setIfInBounds_toArray, List.set_cons_zero, List.set_cons_succ]; first | done | rfl)
                refine Go.Proofs.YtpklhnggbhkmiaaW.PrintLast.pure_ (i := 3) (v := ?_) (a' := ?_) #[false, true, false, true, false, false, false, false, false, false, false] Lime.getop_ rfl (by kernel_rfl) (fun _ _ _ h => h) (Or.inl ⟨by rfl, ?_⟩) ?_ ?_
                rotate_left
                focus (intro w_; (exact Lime.calm_))
                rotate_left
                focus (simp only [Act.put, List.setIfInBounds_toArray, List.set_cons_zero, List.set_cons_succ]; first | done | rfl)
                refine Go.Proofs.YtpklhnggbhkmiaaW.PrintLast.pure_ (i := 6) (v := ?_) (a' := ?_) #[false, true, false, true, false, false, true, false, false, false, false] Lime.getop_ rfl (by kernel_rfl) (fun _ _ _ h => h) (Or.inl ⟨by rfl, ?_⟩) ?_ ?_
                rotate_left
                focus (intro w_; (exact Lime.calm_))
                rotate_left
                focus (simp only [Act.put, List.setIfInBounds_toArray, List.set_cons_zero, List.set_cons_succ]; first | done | rfl)
                refine Go.Proofs.YtpklhnggbhkmiaaW.PrintLast.take_ (i := 0) (v := ?_) (a' := ?_) #[true, true, false, true, false, false, true, false, false, false, false] Lime.getop_ rfl (by kernel_rfl) (fun _ _ _ h => h) (Or.inl ⟨by rfl, ?_⟩) hS ?_ ?_
                rotate_left
                focus (intro w_ hw_; have q0_ := hw_.cell y0; have q1_ := hw_.cell y1; have q2_ := hw_.cell y2; have q3_ := hw_.cell d0r; have q4_ := hw_.cell z1; have q5_ := hw_.cell q0; (exact Lime.calm_))
                rotate_left
                focus (simp only [Act.put, List.setIfInBounds_toArray, List.set_cons_zero, List.set_cons_succ]; first | done | rfl)
                refine Go.Proofs.YtpklhnggbhkmiaaW.PrintLast.take_ (i := 2) (v := ?_) (a' := ?_) #[true, true, true, true, false, false, true, false, false, false, false] Lime.getop_ rfl (by kernel_rfl) (fun _ _ _ h => h) (Or.inl ⟨by rfl, ?_⟩) hS ?_ ?_
                rotate_left
                focus (intro w_ hw_; have q0_ := hw_.cell y0; have q1_ := hw_.cell y1; have q2_ := hw_.cell y2; have q3_ := hw_.cell d0r; have q4_ := hw_.cell z1; have q5_ := hw_.cell q0; (exact Lime.calm_))
                rotate_left
                focus (simp only [Act.put, List.setIfInBounds_toArray, List.set_cons_zero, List.set_cons_succ]; first | done | rfl)
                refine Go.Proofs.YtpklhnggbhkmiaaW.PrintLast.pure_ (i := 4) (v := ?_) (a' := ?_) #[true, true, true, true, true, false, true, false, false, false, false] Lime.getop_ rfl (by kernel_rfl) (fun _ _ _ h => h) (Or.inl ⟨by rfl, ?_⟩) ?_ ?_
                rotate_left
                focus (intro w_; (exact Lime.calm_))
                rotate_left
                focus (simp only [Act.put, List.setIfInBounds_toArray, List.set_cons_zero, List.set_cons_succ]; first | done | rfl)
                refine Go.Proofs.YtpklhnggbhkmiaaW.PrintLast.take_ (i := 5) (v := ?_) (a' := ?_) #[true, true, true, true, true, true, true, false, false, false, false] Lime.getop_ rfl (by kernel_rfl) (fun _ _ _ h => h) (Or.inl ⟨by rfl, ?_⟩) hS ?_ ?_
                rotate_left
                focus (intro w_ hw_; have q0_ := hw_.cell y0; have q1_ := hw_.cell y1; have q2_ := hw_.cell y2; have q3_ := hw_.cell d0r; have q4_ := hw_.cell z1; have q5_ := hw_.cell q0; (exact Lime.calm_))
                rotate_left
                focus (simp only [Act.put, List.setIfInBounds_toArray, List.set_cons_zero, List.set_cons_succ]; first | done | rfl)
                refine Go.Proofs.YtpklhnggbhkmiaaW.PrintLast.pure_ (i := 7) (v := ?_) (a' := ?_) #[true, true, true, true, true, true, true, true, false, false, false] Lime.getop_ rfl (by kernel_rfl) (fun _ _ _ h => h) (Or.inl ⟨by rfl, ?_⟩) ?_ ?_
                rotate_left
                focus (intro w_; (exact Lime.calm_))
                rotate_left
                focus (simp only [Act.put, List.setIfInBounds_toArray, List.set_cons_zero, List.set_cons_succ]; first | done | rfl)
                refine Go.Proofs.YtpklhnggbhkmiaaW.PrintLast.take_ (i := 8) (v := ?_) (a' := ?_) #[true, true, true, true, true, true, true, true, true, false, false] Lime.getop_ rfl (by kernel_rfl) (fun _ _ _ h => h) (Or.inl ⟨by rfl, ?_⟩) hS ?_ ?_
                rotate_left
                focus (intro w_ hw_; have q0_ := hw_.cell y0; have q1_ := hw_.cell y1; have q2_ := hw_.cell y2; have q3_ := hw_.cell d0r; have q4_ := hw_.cell z1; have q5_ := hw_.cell q0; (exact Lime.calm_))
                rotate_left
                focus (simp only [Act.put, List.setIfInBounds_toArray, List.set_cons_zero, List.set_cons_succ]; first | done | rfl)
                refine Go.Proofs.YtpklhnggbhkmiaaW.PrintLast.one_ (i := 9) #[true, true, true, true, true, true, true, true, true, true, false] Lime.getop_ rfl (by kernel_rfl) (by decide) (fun K hK => ?_)
                rw [if_pos (by rfl)]; go_simp; refine (show Calls Try.prog 14 _ _ _ from cdx _ Lime.stp_).mono ?_; rintro e w9 ⟨A9, c9, rfl, r9, hb9⟩
                refine hK.out _ _ Lime.stp_ (fun hst => ?_); replace hS := hst
                clear hK K
                (try simp only [Act.put, List.setIfInBounds_toArray, List.set_cons_zero, List.set_cons_succ])
                refine Go.Proofs.YtpklhnggbhkmiaaW.PrintLast.last_ (i := 10) #[true, true, true, true, true, true, true, true, true, true, true] Lime.getop_ rfl (by kernel_rfl) (by decide) (fun K hK => ?_)
                rw [if_pos (by rfl)]; have hy9 := hS.heap hyX; obtain ⟨s0, v0⟩ := in_block hy9 0 _ rfl; obtain ⟨s1, v1⟩ := in_block hy9 1 _ rfl; obtain ⟨s2, v2⟩ := in_block hy9 2 _ rfl; go_simp
                refine hK.out _ _ ?_
                clear hK K
                (try simp only [Act.put, List.setIfInBounds_toArray, List.set_cons_zero, List.set_cons_succ])
                refine Go.Proofs.YtpklhnggbhkmiaaW.PrintLast.done_ (by kernel_rfl) (noPanic_n ?_)
                have r10 := fun u1 u2 u3 => ((r9.bound.kpt (kpt3 (w := w9) (B := w4.heap.size) (a := u1) (b := u2) (c := u3)) fun k hk _ e => by have h1 := hk.1; have h2 : wr.heap.size ≤ k := h1; omega).mono (S' := fun k => k ≠ w4.heap.size) fun k hk e => by have h1 := hk.1; have h2 : wr.heap.size ≤ k := h1; omega)
                have hK2 := fun u1 u2 u3 => (hK.trans (Kpt.of_stp (O := fun k => k = w4.heap.size) hS) fun x hx => .inl hx).trans (kpt3 (w := w9) (B := w4.heap.size) (a := u1) (b := u2) (c := u3)) fun x hx => .inl hx
                go_wp2_with fail
                go_roundw
                case rel => exact ⟨k + 1, X', A9, c9, by go_num, hlk, DS2.out, r10 _ _ _, put3 hy9, hK2 _ _ _⟩
                case measure => simp [intOf]; omega
              · have hlkz : ¬ (k : Int) < (g.length : Int) := by omega
                rw [List.drop_eq_nil_of_le (by omega), List.nil_append] at DS
                go_wp2_with fail
                go_roundw
                case rel => exact ⟨i2 + 1, X, AX, cX, by go_num, hlt2, DS, rX.stp Lime.stp_, Stp.heap Lime.stp_ hyX, hK.trans (Kpt.of_stp (O := fun k => k = w4.heap.size) Lime.stp_) fun x hx => .inl hx⟩
                case measure => simp [intOf]; omega
          · have hltz2 : ¬ (i2 : Int) < (G.length : Int) := by omega
            rw [List.drop_eq_nil_of_le (by omega)] at DS
            obtain rfl : X = [] := DS.none
            obtain ⟨y0, _⟩ := in_block hyX 0 _ rfl
            have hswr3 : Stp W wr := ((Kpt.of_stp (O := fun k => k = w4.heap.size) hsw8).trans hK fun x hx => .inl hx).stp fun x hx => by omega
            go_wp2_with (go_at_call 8; refine (live_k _).mono ?_; rintro e w9 ⟨rfl, hb9⟩)
            go_ret
            exact ⟨rfl, hswr3.trans Lime.stp_⟩
end Go.Proofs.Lime
