/- Walks: a tree copied; a new node; a new tree. -/
import Derived.Test.YtclhmgchllenlaaGrv
import Derived.Test.YtclhmgchllenlaaWLast
import Derived.Deep.Cut
namespace Go.Proofs.Lime
open Go.RowKit
set_option linter.unusedVariables false
set_option linter.unusedSimpArgs false
attribute [local go_sem] Oper.semAt_some
theorem noPanic_n {Q : Exit → Act → World → Prop} {a : Act} {w : World} (h : Q .normal a w) : NoPanic Q .normal a w := h
theorem cloneN_c {S : Nat → Prop} {w : World} {v : Value} {xs : List Nv} (hr : Row nvK S w v xs) (hl : xs.length ≤ 1000000) :
    Calls Try.prog 46 #[v] w fun e w' => ∃ v', e = .returned v' ∧ Own nvK 49 (w.heap.size ≤ ·) w' v' xs ∧ Stp w w' := by
  obtain ⟨A, c, rfl, hc, hm⟩ := hr.form
  have hnil := fun (w : World) (a : Option Addr) (n c : Nat) => Lib.run_eql_slice_nil (P := Try.prog) w 23 49 a n c 0 0 Try.underlying23
  have hr' := hr.stp ((Stp.refl w).alloc (.cells #[] 49))
  cases A with
  | none =>
    have h0 : xs = [] := by
      cases xs with
      | nil => rfl
      | cons y ys => obtain ⟨b, o, c, cs, e, _⟩ := hr.get 0 (by simp); injection e with e; cases e
    subst h0
    clear hr hr'
    go_enter Try.func46, Try.ntmps46
    go_wp2
    go_ret
    exact ⟨_, rfl, Own.nil _ _ _ _, Stp.refl w⟩
  | some a =>
    clear hr
    go_enter Try.func46, Try.ntmps46
    go_wp2_with (at_builtin; refine wpl_appendrow (d := nvK) (S := (w.heap.size ≤ ·)) (T' := fun _ => False) rfl (.tmp 5) (.tmp 6) 23 49 _ 88 rfl Try.underlying23 infoNode rfl (by decide) (by decide) _ [] _ xs rfl rfl hr' (fun _ _ h => h) (fun _ h _ => h.elim) (Own.fresh _ _ _ w (Nat.le_refl _)) (fun k hk => Nat.le_trans (Stp.size Lime.stp_) hk) (by simp; omega) ?_; intro v1 w1 ho hg2; have hb2 : Stp w w1 := Stp.grown Lime.stp_ hg2 (Own.fresh nvK 49 (w.heap.size ≤ ·) w (Nat.le_refl _)).blk)
    go_ret
    exact ⟨_, rfl, ho, hb2⟩
theorem cloneA_c {S : Nat → Prop} {w : World} {v : Value} {xs : List Attr} (hr : Row attrK S w v xs) (hl : xs.length ≤ 1000000) :
    Calls Try.prog 48 #[v] w fun e w' => ∃ v', e = .returned v' ∧ Own attrK 65 (w.heap.size ≤ ·) w' v' xs ∧ Stp w w' := by
  obtain ⟨A, c, rfl, hc, hm⟩ := hr.form
  have hnil := fun (w : World) (a : Option Addr) (n c : Nat) => Lib.run_eql_slice_nil (P := Try.prog) w 47 65 a n c 0 0 Try.underlying47
  have hr' := hr.stp ((Stp.refl w).alloc (.cells #[] 65))
  cases A with
  | none =>
    have h0 : xs = [] := by
      cases xs with
      | nil => rfl
      | cons y ys => obtain ⟨b, o, c, cs, e, _⟩ := hr.get 0 (by simp); injection e with e; cases e
    subst h0
    clear hr hr'
    go_enter Try.func48, Try.ntmps48
    go_wp2
    go_ret
    exact ⟨_, rfl, Own.nil _ _ _ _, Stp.refl w⟩
  | some a =>
    clear hr
    go_enter Try.func48, Try.ntmps48
    go_wp2_with (at_builtin; refine wpl_appendrow (d := attrK) (S := (w.heap.size ≤ ·)) (T' := fun _ => False) rfl (.tmp 5) (.tmp 6) 47 65 _ 16 rfl Try.underlying47 infoAttr rfl (by decide) (by decide) _ [] _ xs rfl rfl hr' (fun _ _ h => h) (fun _ h _ => h.elim) (Own.fresh _ _ _ w (Nat.le_refl _)) (fun k hk => Nat.le_trans (Stp.size Lime.stp_) hk) (by simp; omega) ?_; intro v1 w1 ho hg2; have hb2 : Stp w w1 := Stp.grown Lime.stp_ hg2 (Own.fresh attrK 65 (w.heap.size ≤ ·) w (Nat.le_refl _)).blk)
    go_ret
    exact ⟨_, rfl, ho, hb2⟩
/-- Are a tree's lists of no great length? -/
def okT (t : List Nd) : Bool := decide (t.length ≤ 1000) && t.all fun x => decide (x.kids.length ≤ 1000) && decide (x.attrs.length ≤ 1000)
theorem okT_iff {t : List Nd} : okT t = true ↔ t.length ≤ 1000 ∧ ∀ x ∈ t, x.kids.length ≤ 1000 ∧ x.attrs.length ≤ 1000 := by
  simp only [okT, Bool.and_eq_true, decide_eq_true_eq, List.all_eq_true]
set_option maxRecDepth 100000 in
set_option maxHeartbeats 4000000 in
theorem copy_c {S : Nat → Prop} {w : World} {v : Value} {t : List Nd} (hr : Row nodeK S w v t) (hok : okT t = true) :
    Calls Try.prog 30 #[v] w fun e w' => ∃ u, e = .returned u ∧ ∃ L, Grove w.heap.size (fun k => S k ∧ k < w.heap.size) L.length w' u L ∧ L.map Nv.x = t ∧ Stp w w' := by
  obtain ⟨L0, hL0, hrow, hin⟩ := nv_of_row hr.bound
  subst hL0
  rw [okT_iff, List.length_map] at hok
  have hlt : L0.length ≤ 1000 := hok.1
  have hkk : ∀ i (h : i < L0.length), L0[i].x.kids.length ≤ 1000 ∧ L0[i].x.attrs.length ≤ 1000 := fun i h => hok.2 _ (List.mem_map.2 ⟨_, List.getElem_mem h, rfl⟩)
  have cc := cloneN_c hrow (by omega)
  clear hok hr
  obtain ⟨A, c, rfl, hc, hm⟩ := hrow.form
  go_enter Try.func30, Try.ntmps30
  go_wp2_with (go_at_call 46; refine cc.mono ?_; rintro e w1 ⟨v1, rfl, o1, hb1⟩; obtain ⟨A1, c1, rfl, hc1, hm1⟩ := o1.reads.form)
  have G0 : Grove w.heap.size (fun k => S k ∧ k < w.heap.size) 0 w1 (.slice A1 L0.length c1) L0 := ⟨o1, fun i h hm => by omega, fun i h hm => by omega, fun i h _ => ⟨(hin i h).1.stp hb1, (hin i h).2.stp hb1⟩, fun i j _ _ hm => by omega⟩
  clear cc o1 hin
  go_loopg [9] L0.length (fun gg s9 W' => ∃ (i : Nat) (L : List Nv), L0.length - i ≤ gg ∧ s9 = .int .i64 i ∧ i ≤ L0.length ∧ Aside (Grove w.heap.size (fun k => S k ∧ k < w.heap.size) i W' (.slice A1 L0.length c1) L ∧ L.map Nv.x = L0.map Nv.x ∧ Stp w W'))
  case atStart => exact ⟨0, L0, Nat.le_refl _, rfl, Nat.zero_le _, G0, rfl, hb1⟩
  case round =>
    obtain ⟨i, L, hg, rfl, hi, HA⟩ := hrel
    obtain ⟨G, hLx, hsW⟩ := HA.out
    have hLl := Lib.hid (show L.length = L0.length by have := congrArg List.length hLx; simpa using this)
    clear HA
    by_cases hlt2 : i < L0.length
    · have hltz : (i : Int) < (L0.length : Int) := by omega
      have hiL : i < L.length := by rw [hLl.out]; exact hlt2
      obtain ⟨g, cg, hv, hob, hgb, hgl, hgc, hg63, ⟨cur, hcur, hcu⟩, hat⟩ := G.out.at7 (Nat.lt_of_le_of_lt (Nat.zero_le i) hiL)
      rw [hLl.out] at hv
      obtain ⟨rfl, rfl⟩ : A1 = some ⟨g, 0, none⟩ ∧ c1 = cg := by injection hv with h1 h2 h3; exact ⟨h1, h3⟩
      have hAt := hat i hiL
      have hrest := G.rest i hiL (Nat.le_refl _)
      have hxi : L[i].x = L0[i].x := by
        have h1 : (L.map Nv.x)[i]'(by simpa using hiL) = (L0.map Nv.x)[i]'(by simpa using hlt2) := by simp only [hLx]
        simpa using h1
      have hkl := hkk i hlt2
      rw [← hxi] at hkl
      have HX := Lib.hid hLx
      clear hxi hLx
      have q3 := hcu i hiL 3 _ (by omega) rfl
      have q6 := hcu i hiL 6 _ (by omega) rfl
      have k3 := hAt.c3
      have k6 := hAt.c6
      simp only [SV.val] at k3 k6 q3 q6
      have ck := fun W' (h : Stp wr W') => cloneI_c (hrest.1.stp h) (by omega)
      have ca := fun W' (h : Stp wr W') => cloneA_c (hrest.2.stp h) (by omega)
      simp only [SV.val] at ck ca
      clear hat hcu hrest hv
      go_upto_region 5 with fail
      refine wp_region_noPanic ?_
      refine Go.Proofs.YtclhmgchllenlaaW.PrintLast.start_ (n := 22) (S := fun W_ => Stp wr W_) (ds := [18, 21]) #[false, false, false, false, false, false, false, false, false, false, false, false, false, false, false, false, false, false, false, false, false, false] (by kernel_rfl) rfl (by kernel_rfl) (Stp.refl _).drew (fun hS => ?_)
      refine Go.Proofs.YtclhmgchllenlaaW.PrintLast.pure_ (i := 0) (v := ?_) (a' := ?_) #[true, false, false, false, false, false, false, false, false, false, false, false, false, false, false, false, false, false, false, false, false, false] Lime.getop_ rfl (by kernel_rfl) (fun _ _ _ h => h) (Or.inl ⟨by rfl, ?_⟩) ?_ ?_
      rotate_left
      focus (intro w_; (exact Lime.calm_))
      rotate_left
      focus (simp only [Act.put, List.setIfInBounds_toArray, List.set_cons_zero, List.set_cons_succ]; first | done | rfl)
      refine Go.Proofs.YtclhmgchllenlaaW.PrintLast.pure_ (i := 1) (v := ?_) (a' := ?_) #[true, true, false, false, false, false, false, false, false, false, false, false, false, false, false, false, false, false, false, false, false, false] Lime.getop_ rfl (by kernel_rfl) (fun _ _ _ h => h) (Or.inl ⟨by rfl, ?_⟩) ?_ ?_
      rotate_left
      focus (intro w_; (exact Lime.calm_))
      rotate_left
      focus (simp only [Act.put, List.setIfInBounds_toArray, List.set_cons_zero, List.set_cons_succ]; first | done | rfl)
      refine Go.Proofs.YtclhmgchllenlaaW.PrintLast.pure_ (i := 2) (v := ?_) (a' := ?_) #[true, true, true, false, false, false, false, false, false, false, false, false, false, false, false, false, false, false, false, false, false, false] Lime.getop_ rfl (by kernel_rfl) (fun _ _ _ h => h) (Or.inl ⟨by rfl, ?_⟩) ?_ ?_
      rotate_left
      focus (intro w_; (exact Lime.calm_))
      rotate_left
      focus (simp only [Act.put, List.setIfInBounds_toArray, List.set_cons_zero, List.set_cons_succ]; first | done | rfl)
      refine Go.Proofs.YtclhmgchllenlaaW.PrintLast.pure_ (i := 3) (v := ?_) (a' := ?_) #[true, true, true, true, false, false, false, false, false, false, false, false, false, false, false, false, false, false, false, false, false, false] Lime.getop_ rfl (by kernel_rfl) (fun _ _ _ h => h) (Or.inl ⟨by rfl, ?_⟩) ?_ ?_
      rotate_left
      focus (intro w_; (exact Lime.calm_))
      rotate_left
      focus (simp only [Act.put, List.setIfInBounds_toArray, List.set_cons_zero, List.set_cons_succ]; first | done | rfl)
      refine Go.Proofs.YtclhmgchllenlaaW.PrintLast.pure_ (i := 4) (v := ?_) (a' := ?_) #[true, true, true, true, true, false, false, false, false, false, false, false, false, false, false, false, false, false, false, false, false, false] Lime.getop_ rfl (by kernel_rfl) (fun _ _ _ h => h) (Or.inl ⟨by rfl, ?_⟩) ?_ ?_
      rotate_left
      focus (intro w_; (exact Lime.calm_))
      rotate_left
      focus (simp only [Act.put, List.setIfInBounds_toArray, List.set_cons_zero, List.set_cons_succ]; first | done | rfl)
      refine Go.Proofs.YtclhmgchllenlaaW.PrintLast.pure_ (i := 5) (v := ?_) (a' := ?_) #[true, true, true, true, true, true, false, false, false, false, false, false, false, false, false, false, false, false, false, false, false, false] Lime.getop_ rfl (by kernel_rfl) (fun _ _ _ h => h) (Or.inl ⟨by rfl, ?_⟩) ?_ ?_
      rotate_left
      focus (intro w_; (exact Lime.calm_))
      rotate_left
      focus (simp only [Act.put, List.setIfInBounds_toArray, List.set_cons_zero, List.set_cons_succ]; first | done | rfl)
      refine Go.Proofs.YtclhmgchllenlaaW.PrintLast.pure_ (i := 6) (v := ?_) (a' := ?_) #[true, true, true, true, true, true, true, false, false, false, false, false, false, false, false, false, false, false, false, false, false, false] Lime.getop_ rfl (by kernel_rfl) (fun _ _ _ h => h) (Or.inl ⟨by rfl, ?_⟩) ?_ ?_
      rotate_left
      focus (intro w_; (exact Lime.calm_))
      rotate_left
      focus (simp only [Act.put, List.setIfInBounds_toArray, List.set_cons_zero, List.set_cons_succ]; first | done | rfl)
      refine Go.Proofs.YtclhmgchllenlaaW.PrintLast.pure_ (i := 7) (v := ?_) (a' := ?_) #[true, true, true, true, true, true, true, true, false, false, false, false, false, false, false, false, false, false, false, false, false, false] Lime.getop_ rfl (by kernel_rfl) (fun _ _ _ h => h) (Or.inl ⟨by rfl, ?_⟩) ?_ ?_
      rotate_left
      focus (intro w_; (exact Lime.calm_))
      rotate_left
      focus (simp only [Act.put, List.setIfInBounds_toArray, List.set_cons_zero, List.set_cons_succ]; first | done | rfl)
      refine Go.Proofs.YtclhmgchllenlaaW.PrintLast.pure_ (i := 10) (v := ?_) (a' := ?_) #[true, true, true, true, true, true, true, true, false, false, true, false, false, false, false, false, false, false, false, false, false, false] Lime.getop_ rfl (by kernel_rfl) (fun _ _ _ h => h) (Or.inl ⟨by rfl, ?_⟩) ?_ ?_
      rotate_left
      focus (intro w_; (exact Lime.calm_))
      rotate_left
      focus (simp only [Act.put, List.setIfInBounds_toArray, List.set_cons_zero, List.set_cons_succ]; first | done | rfl)
      refine Go.Proofs.YtclhmgchllenlaaW.PrintLast.pure_ (i := 11) (v := ?_) (a' := ?_) #[true, true, true, true, true, true, true, true, false, false, true, true, false, false, false, false, false, false, false, false, false, false] Lime.getop_ rfl (by kernel_rfl) (fun _ _ _ h => h) (Or.inl ⟨by rfl, ?_⟩) ?_ ?_
      rotate_left
      focus (intro w_; (exact Lime.calm_))
      rotate_left
      focus (simp only [Act.put, List.setIfInBounds_toArray, List.set_cons_zero, List.set_cons_succ]; first | done | rfl)
      refine Go.Proofs.YtclhmgchllenlaaW.PrintLast.pure_ (i := 12) (v := ?_) (a' := ?_) #[true, true, true, true, true, true, true, true, false, false, true, true, true, false, false, false, false, false, false, false, false, false] Lime.getop_ rfl (by kernel_rfl) (fun _ _ _ h => h) (Or.inl ⟨by rfl, ?_⟩) ?_ ?_
      rotate_left
      focus (intro w_; (exact Lime.calm_))
      rotate_left
      focus (simp only [Act.put, List.setIfInBounds_toArray, List.set_cons_zero, List.set_cons_succ]; first | done | rfl)
      refine Go.Proofs.YtclhmgchllenlaaW.PrintLast.pure_ (i := 13) (v := ?_) (a' := ?_) #[true, true, true, true, true, true, true, true, false, false, true, true, true, true, false, false, false, false, false, false, false, false] Lime.getop_ rfl (by kernel_rfl) (fun _ _ _ h => h) (Or.inl ⟨by rfl, ?_⟩) ?_ ?_
      rotate_left
      focus (intro w_; (exact Lime.calm_))
      rotate_left
      focus (simp only [Act.put, List.setIfInBounds_toArray, List.set_cons_zero, List.set_cons_succ]; first | done | rfl)
      refine Go.Proofs.YtclhmgchllenlaaW.PrintLast.take_ (i := 8) (v := ?_) (a' := ?_) #[true, true, true, true, true, true, true, true, true, false, true, true, true, true, false, false, false, false, false, false, false, false] Lime.getop_ rfl (by kernel_rfl) (fun _ _ _ h => h) (Or.inl ⟨by rfl, ?_⟩) hS ?_ ?_
      rotate_left
      focus (intro w_ hw_; have q0_ := hw_.cell k3; have q1_ := hw_.cell k6; (exact Lime.calm_))
      rotate_left
      focus (simp only [Act.put, List.setIfInBounds_toArray, List.set_cons_zero, List.set_cons_succ]; first | done | rfl)
      refine Go.Proofs.YtclhmgchllenlaaW.PrintLast.take_ (i := 14) (v := ?_) (a' := ?_) #[true, true, true, true, true, true, true, true, true, false, true, true, true, true, true, false, false, false, false, false, false, false] Lime.getop_ rfl (by kernel_rfl) (fun _ _ _ h => h) (Or.inl ⟨by rfl, ?_⟩) hS ?_ ?_
      rotate_left
      focus (intro w_ hw_; have q0_ := hw_.cell k3; have q1_ := hw_.cell k6; (exact Lime.calm_))
      rotate_left
      focus (simp only [Act.put, List.setIfInBounds_toArray, List.set_cons_zero, List.set_cons_succ]; first | done | rfl)
      refine Go.Proofs.YtclhmgchllenlaaW.PrintLast.one_ (i := 9) #[true, true, true, true, true, true, true, true, true, true, true, true, true, true, true, false, false, false, false, false, false, false] Lime.getop_ rfl (by kernel_rfl) (by decide) (fun K hK => ?_)
      rw [if_pos (by rfl)]; go_simp; refine (show Calls Try.prog 47 _ _ _ from ck _ Lime.stp_).mono ?_; rintro e w5 ⟨v5, rfl, o5, hb5⟩; obtain ⟨A5, c5, rfl, _, _⟩ := o5.reads.form
      refine hK.out _ _ Lime.stp_ (fun hst => ?_); replace hS := hst
      clear hK K
      (try simp only [Act.put, List.setIfInBounds_toArray, List.set_cons_zero, List.set_cons_succ])
      refine Go.Proofs.YtclhmgchllenlaaW.PrintLast.one_ (i := 15) #[true, true, true, true, true, true, true, true, true, true, true, true, true, true, true, true, false, false, false, false, false, false] Lime.getop_ rfl (by kernel_rfl) (by decide) (fun K hK => ?_)
      rw [if_pos (by rfl)]; go_simp; refine (show Calls Try.prog 48 _ _ _ from ca _ Lime.stp_).mono ?_; rintro e w6 ⟨v6, rfl, o6, hb6⟩; obtain ⟨A6, c6, rfl, _, _⟩ := o6.reads.form
      refine hK.out _ _ Lime.stp_ (fun hst => ?_); replace hS := hst
      clear hK K
      (try simp only [Act.put, List.setIfInBounds_toArray, List.set_cons_zero, List.set_cons_succ])
      refine Go.Proofs.YtclhmgchllenlaaW.PrintLast.pure_ (i := 16) (v := ?_) (a' := ?_) #[true, true, true, true, true, true, true, true, true, true, true, true, true, true, true, true, true, false, false, false, false, false] Lime.getop_ rfl (by kernel_rfl) (fun _ _ _ h => h) (Or.inl ⟨by rfl, ?_⟩) ?_ ?_
      rotate_left
      focus (intro w_; (exact Lime.calm_))
      rotate_left
      focus (simp only [Act.put, List.setIfInBounds_toArray, List.set_cons_zero, List.set_cons_succ]; first | done | rfl)
      refine Go.Proofs.YtclhmgchllenlaaW.PrintLast.pure_ (i := 17) (v := ?_) (a' := ?_) #[true, true, true, true, true, true, true, true, true, true, true, true, true, true, true, true, true, true, false, false, false, false] Lime.getop_ rfl (by kernel_rfl) (fun _ _ _ h => h) (Or.inl ⟨by rfl, ?_⟩) ?_ ?_
      rotate_left
      focus (intro w_; (exact Lime.calm_))
      rotate_left
      focus (simp only [Act.put, List.setIfInBounds_toArray, List.set_cons_zero, List.set_cons_succ]; first | done | rfl)
      refine Go.Proofs.YtclhmgchllenlaaW.PrintLast.last_ (i := 18) #[true, true, true, true, true, true, true, true, true, true, true, true, true, true, true, true, true, true, true, false, false, false] Lime.getop_ rfl (by kernel_rfl) (by decide) (fun K hK => ?_)
      rw [if_pos (by rfl)]; obtain ⟨z3, y3⟩ := inC (hS.heap hcur) (i * 7 + 3) _ q3; go_simp
      refine hK.out _ _ ?_
      clear hK K
      (try simp only [Act.put, List.setIfInBounds_toArray, List.set_cons_zero, List.set_cons_succ])
      refine Go.Proofs.YtclhmgchllenlaaW.PrintLast.pure_ (i := 19) (v := ?_) (a' := ?_) #[true, true, true, true, true, true, true, true, true, true, true, true, true, true, true, true, true, true, true, true, false, false] Lime.getop_ rfl (by kernel_rfl) (fun _ _ _ h => h) (Or.inl ⟨by rfl, ?_⟩) ?_ ?_
      rotate_left
      focus (intro w_; (exact Lime.calm_))
      rotate_left
      focus (simp only [Act.put, List.setIfInBounds_toArray, List.set_cons_zero, List.set_cons_succ]; first | done | rfl)
      refine Go.Proofs.YtclhmgchllenlaaW.PrintLast.pure_ (i := 20) (v := ?_) (a' := ?_) #[true, true, true, true, true, true, true, true, true, true, true, true, true, true, true, true, true, true, true, true, true, false] Lime.getop_ rfl (by kernel_rfl) (fun _ _ _ h => h) (Or.inl ⟨by rfl, ?_⟩) ?_ ?_
      rotate_left
      focus (intro w_; (exact Lime.calm_))
      rotate_left
      focus (simp only [Act.put, List.setIfInBounds_toArray, List.set_cons_zero, List.set_cons_succ]; first | done | rfl)
      refine Go.Proofs.YtclhmgchllenlaaW.PrintLast.last_ (i := 21) #[true, true, true, true, true, true, true, true, true, true, true, true, true, true, true, true, true, true, true, true, true, true] Lime.getop_ rfl (by kernel_rfl) (by decide) (fun K hK => ?_)
      rw [if_pos (by rfl)]; obtain ⟨z6, y6⟩ := inC (blk_set (hS.heap hcur) (i * 7 + 3) (.slice A5 L[i].x.kids.length c5)) (i * 7 + 6) (.slice L[i].av.a L[i].av.n L[i].av.c) (by rw [Array.getElem?_setIfInBounds_ne (by omega)]; exact q6); go_simp
      refine hK.out _ _ ?_
      clear hK K
      (try simp only [Act.put, List.setIfInBounds_toArray, List.set_cons_zero, List.set_cons_succ])
      refine Go.Proofs.YtclhmgchllenlaaW.PrintLast.done_ (by kernel_rfl) (noPanic_n ?_)
      have hz6 := hS.size
      have hk67 : Kpt (fun k => k = g) w6 ((w6.setCell ⟨g, i * 7 + 3, none⟩ (.slice A5 L[i].x.kids.length c5)).setCell ⟨g, i * 7 + 6, none⟩ (.slice A6 L[i].x.attrs.length c6)) := kpt_store (kpt_store (Kpt.refl _ _) rfl) rfl
      have ho7 := Own.put7 (j := 6) (u := .slice A6 L[i].x.attrs.length c6) (y := ⟨L[i].x, ⟨A5, L[i].x.kids.length, c5⟩, ⟨A6, L[i].x.attrs.length, c6⟩⟩) (by rw [List.length_set]; exact hLl.out) (Own.put7 (j := 3) (u := .slice A5 L[i].x.kids.length c5) (y := ⟨L[i].x, ⟨A5, L[i].x.kids.length, c5⟩, L[i].av⟩) hLl.out (G.out.stp hS) hiL (by omega) rfl) (i := i) (by rw [List.length_set]; exact hiL) (by omega) (by rw [List.getElem_set_self]; rfl)
      rw [List.set_set] at ho7
      have hwg : w.heap.size ≤ g := hgb
      obtain ⟨w7, hw7⟩ : ∃ w7, ((w6.setCell ⟨g, i * 7 + 3, none⟩ (.slice A5 L[i].x.kids.length c5)).setCell ⟨g, i * 7 + 6, none⟩ (.slice A6 L[i].x.attrs.length c6)) = w7 := ⟨_, rfl⟩
      rw [hw7] at ho7 hk67 ⊢
      have hk7 : Kpt (fun k => (Value.slice (some ⟨g, 0, none⟩) L0.length c1).ownBlock = some k) wr w7 := (Kpt.of_stp (O := fun k => (Value.slice (some ⟨g, 0, none⟩) L0.length c1).ownBlock = some k) hS).trans hk67 fun x hx => .inl (by rw [hob, hx])
      have hkl5 : ∀ k, (Value.slice A5 L[i].x.kids.length c5).ownBlock = some k → k < w5.heap.size := fun k h => own_lt (own_ints o5) k h
      have G7 := G.step hiL ho7 hk7 (Nat.le_trans hgb (Nat.le_of_lt hgl)) (fun k hk => hk.2) (((o5.stp hb6).kpt hk67 fun k hk _ e => by have h' : wr.heap.size ≤ k := hk; omega).mono fun k hk _ => hk) ((o6.reads.kpt hk67 fun k hk _ e => by have h' : w5.heap.size ≤ k := hk; have := hb5.size; have h2 : wr.heap.size ≤ w5.heap.size := this; omega).mono fun k hk => ⟨Nat.le_trans (show wr.heap.size ≤ w5.heap.size from hb5.size) hk, fun e => by have := hkl5 k e; have h' : w5.heap.size ≤ k := hk; omega⟩)
      have hst7 : Stp w w7 := ((Kpt.of_stp (O := fun _ => False) hsW).trans hk7 fun x hx => .inr (by rw [hob] at hx; have := Option.some.inj hx; omega)).stp fun x h => h.elim
      have hLx7 : (L.set i ⟨L[i].x, ⟨A5, L[i].x.kids.length, c5⟩, ⟨A6, L[i].x.attrs.length, c6⟩⟩).map Nv.x = L0.map Nv.x := by
        rw [List.map_set, ← HX.out]
        apply List.ext_getElem
        · simp
        · intro j h1 h2
          rw [List.getElem_set]
          split
          · rename_i e; subst e; simp
          · rfl
      generalize L.set i ⟨L[i].x, ⟨A5, L[i].x.kids.length, c5⟩, ⟨A6, L[i].x.attrs.length, c6⟩⟩ = L7 at G7 hLx7
      clear ho7 hk7 hk67 hkl5 hw7 o5 o6 hS
      go_wp2_with fail
      go_roundg (L0.length - (i + 1))
      case measure => omega
      case rel => exact ⟨i + 1, L7, Nat.le_refl _, by go_num, hlt2, G7, hLx7, hst7⟩
    · have hltz : ¬ (i : Int) < (L0.length : Int) := by omega
      obtain rfl : i = L0.length := by omega
      go_wp2
      go_ret
      exact ⟨_, rfl, L, by have := hLl.out; rw [this]; exact G, hLx, hsW⟩
def freshN (kind tag : Int) : Nd := ⟨kind, tag, -1, [], -1, -1, []⟩
theorem fresh_c (w : World) (k g : Int) : Calls Try.prog 31 #[.int .i64 k, .int .i64 g] w fun e w' => e = .returned (.agg #[.int .i64 k, .int .i64 g, .int .i64 (-1), .slice none 0 0, .int .i64 (-1), .int .i64 (-1), .slice none 0 0]) ∧ Stp w w' := by
  go_enter Try.func31, Try.ntmps31
  go_wp2
  exact bodyPost_ret (results_cell_row rfl _ _ w.heap.size 49 #[.int .i64 k, .int .i64 g, .int .i64 (-1), .slice none 0 0, .int .i64 (-1), .int .i64 (-1), .slice none 0 0] (0, 0) _ rfl (World.alloc_heap_new w _) Try.underlying49 rfl (by kernel_rfl)) rfl ⟨rfl, by (exact Lime.stp_)⟩
theorem new_c (w : World) : Calls Try.prog 22 #[] w fun e w' => ∃ u, e = .returned u ∧ Row nodeK (fun k => w.heap.size ≤ k) w' u [freshN 0 0] ∧ Stp w w' := by
  go_enter Try.func22, Try.ntmps22
  go_wp2_with (go_at_call 31; refine (fresh_c _ _ _).mono ?_; rintro e w1 ⟨rfl, hb1⟩)
  go_ret
  have hz1 := hb1.size
  refine ⟨_, rfl, Row.box (cs := [.int .i64 0, .int .i64 0, .int .i64 (-1), .slice none 0 0, .int .i64 (-1), .int .i64 (-1), .slice none 0 0]) (World.alloc_heap_new w1 _) hz1 ⟨_, _, rfl, Row.nil _ _ _, Row.nil _ _ _⟩, hb1.alloc _⟩
end Go.Proofs.Lime
