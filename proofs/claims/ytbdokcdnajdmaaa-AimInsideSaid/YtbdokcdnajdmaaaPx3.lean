import Derived.Test.YtbdokcdnajdmaaaPx0
import Derived.Test.YtbdokcdnajdmaaaPx1
import Derived.Test.YtbdokcdnajdmaaaPx2
-- printed by wip/tools/pp.sh (a patched copy of the print's program), for this claim.
namespace Go.Proofs.Ytbdokcdnajdmaaa.P
open Go.RowKit Go.Proofs.YtbdokcdnajdmaaaW.PrintWords Go.Proofs.YtbdokcdnajdmaaaW.PrintLast Go.Proofs.YtbdokcdnajdmaaaW.PrintMore
attribute [local go_sem] max2_int min2_int max_two min_two max_three min_three max_four min_four   -- for this text's walks alone
set_option linter.unusedVariables false
set_option linter.unusedSimpArgs false

/-! ### limelightref01_Up: function 57 -/
def limelightref01_Up.f (l0 : List (S53)) (a1 : Int) : Option (Int) := if 0 ≤ a1 then (if a1 < (l0.length : Int) then (if ((rd_T53 l0 a1).f0) = 3 then (some ((rd_T53 l0 a1).f4)) else (some ((rd_T53 l0 a1).f2))) else (none)) else (none)
set_option maxHeartbeats 8000000 in
set_option maxRecDepth 100000 in
theorem limelightref01_Up.calls (A0 : Option Addr) (c0 : Nat) (l0 : List (S53)) (a1 : Int) (r : Int) (w : World) (hr0 : Kd.C k53 w A0 l0.length l0) (hc0 : l0.length ≤ c0) (h : limelightref01_Up.f l0 a1 = some r) :
  Calls Try.prog 57 #[.slice A0 l0.length c0, .int .i64 a1] w fun e w' => e = .returned (.int .i64 r) ∧ Drawn0 w w' := by
 have HR0 := Aside0.mk hr0
 have HC0 := Aside0.mk hc0
 clear hr0 hc0
 have H : (if 0 ≤ a1 then (if a1 < (l0.length : Int) then (if ((rd_T53 l0 a1).f0) = 3 then (some ((rd_T53 l0 a1).f4)) else (some ((rd_T53 l0 a1).f2))) else (none)) else (none)) = some r := h
 clear h
 by_cases c3 : 0 ≤ a1
 ·rw [if_pos c3] at H
  have c3b0 : decide (0 ≤ a1) = true := decide_eq_true c3
  clear c3
  by_cases c4 : a1 < (l0.length : Int)
  ·rw [if_pos c4] at H
   have c4b0 : decide (a1 < (l0.length : Int)) = true := decide_eq_true c4
   clear c4
   by_cases c5 : ((rd_T53 l0 a1).f0) = 3
   ·rw [if_pos c5] at H
    have c5b0 : (((rd_T53 l0 a1).f0) == 3) = true := beq_iff_eq.mpr c5
    have c5b1 : (((rd_T53 l0 a1).f0) != 3) = false := bne_eq_false_iff_eq.mpr c5
    clear c5
    obtain rfl := Option.some.inj H
    have p171 : 0 ≤ (a1 : Int) := of_decide_eq_true asm_
    have q171 : a1 < (l0.length : Int) := of_decide_eq_true asm_
    obtain ⟨ad171, A171_3, c171_3, A171_6, c171_6, e171, hx171_0, hx171_1, hx171_2, hx171_3, hx171_4, hx171_5, hx171_6, hl171_3, hi171_3, hl171_6, hi171_6⟩ := at_T53 HR0.out a1 p171 q171
    cases e171
    have HR171_3 := Aside0.mk hi171_3
    have HC171_3 := Aside0.mk hl171_3
    clear hi171_3 hl171_3
    have HR171_6 := Aside0.mk hi171_6
    have HC171_6 := Aside0.mk hl171_6
    clear hi171_6 hl171_6
    replace p171 := eq_true p171
    replace q171 := eq_true q171
    have p172 : 0 ≤ (a1 : Int) := of_decide_eq_true asm_
    have q172 : a1 < (l0.length : Int) := of_decide_eq_true asm_
    obtain ⟨ad172, A172_3, c172_3, A172_6, c172_6, e172, hx172_0, hx172_1, hx172_2, hx172_3, hx172_4, hx172_5, hx172_6, hl172_3, hi172_3, hl172_6, hi172_6⟩ := at_T53 HR0.out a1 p172 q172
    obtain rfl : ad171 = ad172 := (by injection e172)
    have HR172_3 := Aside0.mk hi172_3
    have HC172_3 := Aside0.mk hl172_3
    clear hi172_3 hl172_3
    have HR172_6 := Aside0.mk hi172_6
    have HC172_6 := Aside0.mk hl172_6
    clear hi172_6 hl172_6
    replace p172 := eq_true p172
    replace q172 := eq_true q172
    have ea_ := Option.some.inj (hx171_3.symm.trans hx172_3)
    injection ea_ with ea_ en_ ec_
    subst ea_
    subst ec_
    clear en_
    have ea_ := Option.some.inj (hx171_6.symm.trans hx172_6)
    injection ea_ with ea_ en_ ec_
    subst ea_
    subst ec_
    clear en_
    go_enter Try.func57, Try.ntmps57
    go_wp2
    go_ret
    exact ⟨by first | rfl | (simp; done) | (simp [*]; done), by repeat (first | exact Drawn0.refl _ | apply Drawn0.step)⟩
   ·rw [if_neg c5] at H
    have c5b0 : (((rd_T53 l0 a1).f0) == 3) = false := beq_eq_false_iff_ne.mpr c5
    have c5b1 : (((rd_T53 l0 a1).f0) != 3) = true := bne_iff_ne.mpr c5
    obtain rfl := Option.some.inj H
    have p171 : 0 ≤ (a1 : Int) := of_decide_eq_true asm_
    have q171 : a1 < (l0.length : Int) := of_decide_eq_true asm_
    obtain ⟨ad171, A171_3, c171_3, A171_6, c171_6, e171, hx171_0, hx171_1, hx171_2, hx171_3, hx171_4, hx171_5, hx171_6, hl171_3, hi171_3, hl171_6, hi171_6⟩ := at_T53 HR0.out a1 p171 q171
    cases e171
    have HR171_3 := Aside0.mk hi171_3
    have HC171_3 := Aside0.mk hl171_3
    clear hi171_3 hl171_3
    have HR171_6 := Aside0.mk hi171_6
    have HC171_6 := Aside0.mk hl171_6
    clear hi171_6 hl171_6
    replace p171 := eq_true p171
    replace q171 := eq_true q171
    have p173 : 0 ≤ (a1 : Int) := of_decide_eq_true asm_
    have q173 : a1 < (l0.length : Int) := of_decide_eq_true asm_
    obtain ⟨ad173, A173_3, c173_3, A173_6, c173_6, e173, hx173_0, hx173_1, hx173_2, hx173_3, hx173_4, hx173_5, hx173_6, hl173_3, hi173_3, hl173_6, hi173_6⟩ := at_T53 HR0.out a1 p173 q173
    obtain rfl : ad171 = ad173 := (by injection e173)
    have HR173_3 := Aside0.mk hi173_3
    have HC173_3 := Aside0.mk hl173_3
    clear hi173_3 hl173_3
    have HR173_6 := Aside0.mk hi173_6
    have HC173_6 := Aside0.mk hl173_6
    clear hi173_6 hl173_6
    replace p173 := eq_true p173
    replace q173 := eq_true q173
    have ea_ := Option.some.inj (hx171_3.symm.trans hx173_3)
    injection ea_ with ea_ en_ ec_
    subst ea_
    subst ec_
    clear en_
    have ea_ := Option.some.inj (hx171_6.symm.trans hx173_6)
    injection ea_ with ea_ en_ ec_
    subst ea_
    subst ec_
    clear en_
    go_enter Try.func57, Try.ntmps57
    go_wp2
    go_ret
    exact ⟨by first | rfl | (simp; done) | (simp [*]; done), by repeat (first | exact Drawn0.refl _ | apply Drawn0.step)⟩
  ·rw [if_neg c4] at H
   exact absurd H (by simp)
 ·rw [if_neg c3] at H
  exact absurd H (by simp)

/-! ### limelightref04_Up: function 34 -/
def limelightref04_Up.l0 : Nat → List (S53) → Int → List Int → Option (List Int)
 | 0, _, _, _ => none
 | k + 1, x0, x1, x5 => if x1 = (-1) then (some x5) else (if x5.length < 17592186044416 then ((limelightref01_Up.f x0 x1).bind fun t177 => (limelightref04_Up.l0 k x0 t177 (x5 ++ [x1]))) else (none))
def limelightref04_Up.f (k : Nat) (l0 : List (S53)) (a1 : Int) : Option (List Int) := limelightref04_Up.l0 k l0 a1 ([] : List Int)
theorem limelightref04_Up.mono_l : ∀ k, (∀ y0 y1 y2, LeO (limelightref04_Up.l0 k y0 y1 y2) (limelightref04_Up.l0 (k + 1) y0 y1 y2))
 | 0 => fun _ _ _ r h => by simp [limelightref04_Up.l0] at h
 | k + 1 => by
  have ih0 := limelightref04_Up.mono_l k
  ·intro y0 y1 y2
   unfold limelightref04_Up.l0
   repeat' first
   | (with_reducible exact ih0 _ _ _)
   | (with_reducible exact LeO.refl _)
   | (with_reducible exact LeO.none _)
   | (with_reducible refine LeO.ite ?_ ?_)
   | (with_reducible refine LeO.bind ?_ (fun _ => ?_))
   | exact ih0 _ _ _
   | exact LeO.none _
   | refine LeO.ite ?_ ?_
   | refine LeO.bind ?_ (fun _ => ?_)
theorem limelightref04_Up.mono : ∀ a0 a1 k, LeO (limelightref04_Up.f k a0 a1) (limelightref04_Up.f (k + 1) a0 a1) := by
 intro a0 a1 k
 have ih0 := limelightref04_Up.mono_l k
 unfold limelightref04_Up.f
 repeat' first
   | (with_reducible exact ih0 _ _ _)
   | (with_reducible exact LeO.refl _)
   | (with_reducible exact LeO.none _)
   | (with_reducible refine LeO.ite ?_ ?_)
   | (with_reducible refine LeO.bind ?_ (fun _ => ?_))
   | exact ih0 _ _ _
   | exact LeO.none _
   | refine LeO.ite ?_ ?_
   | refine LeO.bind ?_ (fun _ => ?_)
set_option maxHeartbeats 8000000 in
set_option maxRecDepth 100000 in
theorem limelightref04_Up.calls (k : Nat) (A0 : Option Addr) (c0 : Nat) (l0 : List (S53)) (a1 : Int) (r : List Int) (w : World) (hr0 : Kd.C k53 w A0 l0.length l0) (hc0 : l0.length ≤ c0) (h : limelightref04_Up.f k l0 a1 = some r) :
  Calls Try.prog 34 #[.slice A0 l0.length c0, .int .i64 a1] w fun e w' => ∃ v0_ : Value, e = .returned (v0_) ∧ Kd.R (Kd.int .i64) 3 w' w.heap.size (fun _ => True) v0_ r ∧ Below w.heap.size w w' := by
 have HR0 := Aside0.mk hr0
 have HC0 := Aside0.mk hc0
 clear hr0 hc0
 have HB := Aside0.mk (Below.refl w.heap.size w)
 have H : (limelightref04_Up.l0 k l0 a1 ([] : List Int)) = some r := h
 clear h
 have H' := Aside0.mk H
 clear H
 go_enter Try.func34, Try.ntmps34
 go_wp2
 go_loopg [1, 5] k (fun kq v1 v5 w' => ∃ (x1_1 : Int) (x5_1 : List Int), v1 = .int .i64 x1_1 ∧ Aside0 (limelightref04_Up.l0 kq l0 x1_1 x5_1 = some r) ∧ Aside0 (kq ≤ k) ∧ Aside0 (Kd.R (Kd.int .i64) 3 w' w.heap.size (fun _ => True) v5 x5_1) ∧ Aside0 (Below w.heap.size w w'))
 case atStart => exact ⟨(a1), (([] : List Int)), (by first | rfl | (simp; done) | (simp [*]; done)), H', ⟨Nat.le_refl _⟩, ⟨by first | exact Kd.R_nil _ _ _ _ _ | exact Kd.N_nil _ _ _ _ _ | exact Kd.V_nil _ _ _ _ _ | exact Kd.Q_nil _ _ _ _ _ | exact Kd.S_nil _ _ _ _ _⟩, ⟨bel_⟩⟩
 case round =>
  clear H'
  try clear p2
  obtain ⟨x1_1, x5_1, rfl, HA, HK1, HO_5, HB⟩ := hrel
  cases gk with
  | zero => exact absurd HA.out (by simp [limelightref04_Up.l0])
  | succ k1 =>
   have H := HA.out
   clear HA
   simp only [limelightref04_Up.l0] at H
   by_cases c3 : x1_1 = (-1)
   ·rw [if_pos c3] at H
    have c3b0 : (x1_1 == (-1)) = true := beq_iff_eq.mpr c3
    have c3b1 : (x1_1 != (-1)) = false := bne_eq_false_iff_eq.mpr c3
    clear c3
    obtain rfl := Option.some.inj H
    go_wp2
    go_ret
    exact ⟨_, by first | rfl | (simp [errW_none, errW_some] <;> rfl) | (simp [*, errW_none, errW_some] <;> rfl), kra_ HO_5.out, bel_⟩
   ·rw [if_neg c3] at H
    have c3b0 : (x1_1 == (-1)) = false := beq_eq_false_iff_ne.mpr c3
    have c3b1 : (x1_1 != (-1)) = true := bne_iff_ne.mpr c3
    by_cases c4 : x5_1.length < 17592186044416
    ·rw [if_pos c4] at H
     have LMc4 := Aside0.mk c4
     clear c4
     obtain ⟨y174, hy174⟩ : ∃ y_ : List Int, y_ = (x5_1 ++ [x1_1]) := ⟨_, rfl⟩
     replace H : ((limelightref01_Up.f l0 x1_1).bind fun t177 => (limelightref04_Up.l0 k1 l0 t177 y174)) = some r := by first | (rw [hy174]; with_reducible exact H) | (have H2_ := (Option.bind_some _ _).symm.trans H; rw [hy174]; with_reducible exact H2_) | (have H2_ := (Option.bind_some _ _).symm.trans H; with_reducible exact H2_) | with_reducible exact H | (rw [hy174]; exact H) | exact H
     have Ny174 := Aside0.mk hy174
     clear hy174
     replace H := Option.bind_eq_some_iff.mp H
     obtain ⟨t177, A50, H⟩ := H
     replace H : (limelightref04_Up.l0 k1 l0 t177 y174) = some r := H
     have A5 := Aside0.mk A50
     clear A50
     have H' := Aside0.mk H
     clear H
     go_wp2_with (first | ((with_reducible refine gate_builtin (b := .append) (xs := #[.tmp 8, .tmp 10]) rfl ?_); at_builtin; refine Kd.R_append (Kd.int .i64) (w0 := w) w.heap.size rfl (.tmp 8) (.tmp 10) 50 3 (.int .i64 0) 8 rfl Try.underlying50 info3 rfl (by decide) (by omega) u5 x5_1 x1_1 [.int .i64 x1_1] (fun _ => True) (fun _ => False) rfl rfl ?aP (fun _ hk => hk.elim) ?aF ?aO ?aB ?aS ?aL ?_; (case aP => exact rfl); (case aB => exact bel_); (case aF => exact (fun _ _ => trivial)); (case aO => exact (kra_ HO_5.out)); (case aS => exact (below_size bel_)); (case aL => have := LMc4.out; omega); intro v175 w6 ho hb hg hat; rw [← Ny174.out] at ho; have n0_ := Aside0.mk (hb); have n1_ := Aside0.mk (ho); clear HB; clear HO_5; have HB := n0_; have HO176 := n1_; clear n0_ n1_; clear ho hb hg hat) | ((with_reducible refine gate_callee (f := 57) rfl ?_); refine goesL_ (some 14) rfl rfl Try.func57 (by kernel_rfl) rfl #[.slice A0 l0.length c0, .int .i64 x1_1] rfl margs_ ?_; (with_reducible refine (limelightref01_Up.calls _ _ l0 x1_1 t177 _ ?side1 ?side2 A5.out).mono ?_); (case side1 => exact kcb_ ((Kd.C_below HR0.out HB.out))); (case side2 => exact HC0.out); rintro e w' ⟨rfl, ⟨nd, rfl⟩⟩; refine ⟨_, rfl, ?_⟩))
     go_roundg k1
     case measure => have := HK1.out; omega
     case rel => exact ⟨(t177), (y174), (by first | rfl | (simp; done) | (simp [*]; done)), H', ⟨by have := HK1.out; omega⟩, ⟨kra_ HO176.out⟩, ⟨bel_⟩⟩
    ·rw [if_neg c4] at H
     exact absurd H (by simp)

/-! ### limelightref04_Above: function 21 -/
def limelightref04_Above.f (k : Nat) (l0 : List (S53)) (a1 : Int) (a2 : Int) : Option (Bool) := (limelightref04_Up.f k l0 a2).bind fun t178 => ((limelightref03_In.f k t178 a1).bind fun t181 => (some t181))
theorem limelightref04_Above.mono : ∀ a0 a1 a2 k, LeO (limelightref04_Above.f k a0 a1 a2) (limelightref04_Above.f (k + 1) a0 a1 a2) := by
 intro a0 a1 a2 k
 unfold limelightref04_Above.f
 repeat' first
   | (with_reducible exact limelightref03_In.mono _ _ _)
   | (with_reducible exact limelightref04_Up.mono _ _ _)
   | (with_reducible exact LeO.refl _)
   | (with_reducible exact LeO.none _)
   | (with_reducible refine LeO.ite ?_ ?_)
   | (with_reducible refine LeO.bind ?_ (fun _ => ?_))
   | exact limelightref03_In.mono _ _ _
   | exact limelightref04_Up.mono _ _ _
   | exact LeO.none _
   | refine LeO.ite ?_ ?_
   | refine LeO.bind ?_ (fun _ => ?_)
set_option maxHeartbeats 8000000 in
set_option maxRecDepth 100000 in
theorem limelightref04_Above.calls (k : Nat) (A0 : Option Addr) (c0 : Nat) (l0 : List (S53)) (a1 : Int) (a2 : Int) (r : Bool) (w : World) (hr0 : Kd.C k53 w A0 l0.length l0) (hc0 : l0.length ≤ c0) (h : limelightref04_Above.f k l0 a1 a2 = some r) :
  Calls Try.prog 21 #[.slice A0 l0.length c0, .int .i64 a1, .int .i64 a2] w fun e w' => e = .returned (.bool r) ∧ Below w.heap.size w w' := by
 have HR0 := Aside0.mk hr0
 have HC0 := Aside0.mk hc0
 clear hr0 hc0
 have HB := Aside0.mk (Below.refl w.heap.size w)
 have H : ((limelightref04_Up.f k l0 a2).bind fun t178 => ((limelightref03_In.f k t178 a1).bind fun t181 => (some t181))) = some r := h
 clear h
 replace H := Option.bind_eq_some_iff.mp H
 obtain ⟨t178, A40, H⟩ := H
 replace H : ((limelightref03_In.f k t178 a1).bind fun t181 => (some t181)) = some r := H
 have A4 := Aside0.mk A40
 clear A40
 replace H := Option.bind_eq_some_iff.mp H
 obtain ⟨t181, A50, H⟩ := H
 replace H : (some t181) = some r := H
 have A5 := Aside0.mk A50
 clear A50
 obtain rfl := Option.some.inj H
 go_enter Try.func21, Try.ntmps21
 go_wp2_with (first | ((with_reducible refine gate_callee (f := 34) rfl ?_); refine goesL_ (some 9) rfl rfl Try.func34 (by kernel_rfl) rfl #[.slice A0 l0.length c0, .int .i64 a2] rfl margs_ ?_; (with_reducible refine (limelightref04_Up.calls k _ _ l0 a2 t178 _ ?side1 ?side2 A4.out).mono ?_); (case side1 => exact kcb_ (HR0.out)); (case side2 => exact HC0.out); rintro e w6 ⟨v179, rfl, ho0, hb⟩; refine ⟨_, rfl, ?_⟩; have n0_ := Aside0.mk (Kd.R_lower ho0 (below_size bel_)); have n1_ := Aside0.mk (below_step bel_ hb); clear HB; have HO180 := n0_; have HB := n1_; clear n0_ n1_; (try clear hb); (try clear hb2); (try clear hk); (try clear hi); (try clear ho0); obtain ⟨Ao7, co7, eo7⟩ := Kd.R_slice HO180.out; subst eo7) | ((with_reducible refine gate_callee (f := 33) rfl ?_); refine goesL_ (some 11) rfl rfl Try.func33 (by kernel_rfl) rfl #[.slice Ao7 t178.length co7, .int .i64 a1] rfl margs_ ?_; (with_reducible refine (limelightref03_In.calls k _ _ t178 a1 t181 _ ?side1 ?side2 A5.out).mono ?_); (case side1 => exact kcb_ ((Kd.R_reads' HO180.out).2.2)); (case side2 => exact (Kd.R_reads' HO180.out).2.1); rintro e w' ⟨rfl, ⟨nd, rfl⟩⟩; refine ⟨_, rfl, ?_⟩))
 go_ret
 exact ⟨by first | rfl | (simp [errW_none, errW_some] <;> rfl) | (simp [*, errW_none, errW_some] <;> rfl), bel_⟩

/-! ### limelightref04_Retarget: function 18 -/
def limelightref04_Retarget.f : Nat → List (S53) → Int → Int → Option (Int)
 | 0, _, _, _ => none
 | k + 1, l0, a1, a2 => (limelightref03_Top.f k l0 a1).bind fun t182 => (if 0 ≤ t182 then (if t182 < (l0.length : Int) then (if ((rd_T53 l0 t182).f0) = 3 then ((limelightref04_Above.f k l0 t182 a2).bind fun t184 => (if t184 = true then (some a1) else ((limelightref04_Retarget.f k l0 ((rd_T53 l0 t182).f4) a2).bind fun t186 => (some t186)))) else (some a1)) else (none)) else (none))
theorem limelightref04_Retarget.mono_l : ∀ k, (∀ y0 y1 y2, LeO (limelightref04_Retarget.f k y0 y1 y2) (limelightref04_Retarget.f (k + 1) y0 y1 y2))
 | 0 => fun _ _ _ r h => by simp [limelightref04_Retarget.f] at h
 | k + 1 => by
  have ih0 := limelightref04_Retarget.mono_l k
  ·intro y0 y1 y2
   unfold limelightref04_Retarget.f
   repeat' first
   | (with_reducible exact ih0 _ _ _)
   | (with_reducible exact limelightref03_Top.mono _ _ _)
   | (with_reducible exact limelightref04_Above.mono _ _ _ _)
   | (with_reducible exact LeO.refl _)
   | (with_reducible exact LeO.none _)
   | (with_reducible refine LeO.ite ?_ ?_)
   | (with_reducible refine LeO.bind ?_ (fun _ => ?_))
   | exact ih0 _ _ _
   | exact limelightref03_Top.mono _ _ _
   | exact limelightref04_Above.mono _ _ _ _
   | exact LeO.none _
   | refine LeO.ite ?_ ?_
   | refine LeO.bind ?_ (fun _ => ?_)
theorem limelightref04_Retarget.mono : ∀ a0 a1 a2 k, LeO (limelightref04_Retarget.f k a0 a1 a2) (limelightref04_Retarget.f (k + 1) a0 a1 a2) := by
 intro a0 a1 a2 k
 have ih0 := limelightref04_Retarget.mono_l k
 exact ih0 a0 a1 a2
set_option maxHeartbeats 8000000 in
set_option maxRecDepth 100000 in
theorem limelightref04_Retarget.calls (k : Nat) : ∀ (A0 : Option Addr) (c0 : Nat) (l0 : List (S53)) (a1 : Int) (a2 : Int) (r : Int) (w : World) (hr0 : Kd.C k53 w A0 l0.length l0) (hc0 : l0.length ≤ c0) (h : limelightref04_Retarget.f k l0 a1 a2 = some r),
  Calls Try.prog 18 #[.slice A0 l0.length c0, .int .i64 a1, .int .i64 a2] w fun e w' => e = .returned (.int .i64 r) ∧ Below w.heap.size w w' := by
 induction k using Nat.strongRecOn with
 | _ k ih =>
 intro A0 c0 l0 a1 a2 r w hr0 hc0 h
 cases k with
 | zero => exact absurd h (by simp [limelightref04_Retarget.f])
 | succ k =>
 simp only [limelightref04_Retarget.f] at h
 have HR0 := Aside0.mk hr0
 have HC0 := Aside0.mk hc0
 clear hr0 hc0
 have HB := Aside0.mk (Below.refl w.heap.size w)
 have H : ((limelightref03_Top.f k l0 a1).bind fun t182 => (if 0 ≤ t182 then (if t182 < (l0.length : Int) then (if ((rd_T53 l0 t182).f0) = 3 then ((limelightref04_Above.f k l0 t182 a2).bind fun t184 => (if t184 = true then (some a1) else ((limelightref04_Retarget.f k l0 ((rd_T53 l0 t182).f4) a2).bind fun t186 => (some t186)))) else (some a1)) else (none)) else (none))) = some r := h
 clear h
 replace H := Option.bind_eq_some_iff.mp H
 obtain ⟨t182, A40, H⟩ := H
 replace H : (if 0 ≤ t182 then (if t182 < (l0.length : Int) then (if ((rd_T53 l0 t182).f0) = 3 then ((limelightref04_Above.f k l0 t182 a2).bind fun t184 => (if t184 = true then (some a1) else ((limelightref04_Retarget.f k l0 ((rd_T53 l0 t182).f4) a2).bind fun t186 => (some t186)))) else (some a1)) else (none)) else (none)) = some r := H
 have A4 := Aside0.mk A40
 clear A40
 by_cases c5 : 0 ≤ t182
 ·rw [if_pos c5] at H
  have c5b0 : decide (0 ≤ t182) = true := decide_eq_true c5
  clear c5
  by_cases c6 : t182 < (l0.length : Int)
  ·rw [if_pos c6] at H
   have c6b0 : decide (t182 < (l0.length : Int)) = true := decide_eq_true c6
   clear c6
   by_cases c7 : ((rd_T53 l0 t182).f0) = 3
   ·rw [if_pos c7] at H
    have c7b0 : (((rd_T53 l0 t182).f0) == 3) = true := beq_iff_eq.mpr c7
    have c7b1 : (((rd_T53 l0 t182).f0) != 3) = false := bne_eq_false_iff_eq.mpr c7
    clear c7
    replace H := Option.bind_eq_some_iff.mp H
    obtain ⟨t184, A80, H⟩ := H
    replace H : (if t184 = true then (some a1) else ((limelightref04_Retarget.f k l0 ((rd_T53 l0 t182).f4) a2).bind fun t186 => (some t186))) = some r := H
    have A8 := Aside0.mk A80
    clear A80
    by_cases c9 : t184 = true
    ·subst c9
     have H1 : (some a1) = some r := by rw [if_pos rfl] at H; exact H
     clear H
     have H := H1
     clear H1
     obtain rfl := Option.some.inj H
     go_enter Try.func18, Try.ntmps18
     go_wp2_with (first | ((with_reducible refine gate_callee (f := 20) rfl ?_); refine goesL_ (some 10) rfl rfl Try.func20 (by kernel_rfl) rfl #[.slice A0 l0.length c0, .int .i64 a1] rfl margs_ ?_; (with_reducible refine (limelightref03_Top.calls k _ _ l0 a1 t182 _ ?side1 ?side2 A4.out).mono ?_); (case side1 => exact kcb_ (HR0.out)); (case side2 => exact HC0.out); rintro e w10 ⟨rfl, hb⟩; refine ⟨_, rfl, ?_⟩; have n0_ := Aside0.mk (below_step bel_ hb); clear HB; have HB := n0_; clear n0_; (try clear hb); (try clear hb2); (try clear hk); (try clear hi); have p183 : 0 ≤ (t182 : Int) := of_decide_eq_true asm_; have q183 : t182 < (l0.length : Int) := of_decide_eq_true asm_; obtain ⟨ad183, A183_3, c183_3, A183_6, c183_6, e183, hx183_0, hx183_1, hx183_2, hx183_3, hx183_4, hx183_5, hx183_6, hl183_3, hi183_3, hl183_6, hi183_6⟩ := at_T53 HR0.out t182 p183 q183; cases e183; replace hx183_0 := (HB.out.cell (World.block_lt_of_cell? w _ hx183_0)).trans hx183_0; replace hx183_1 := (HB.out.cell (World.block_lt_of_cell? w _ hx183_1)).trans hx183_1; replace hx183_2 := (HB.out.cell (World.block_lt_of_cell? w _ hx183_2)).trans hx183_2; replace hx183_3 := (HB.out.cell (World.block_lt_of_cell? w _ hx183_3)).trans hx183_3; replace hx183_4 := (HB.out.cell (World.block_lt_of_cell? w _ hx183_4)).trans hx183_4; replace hx183_5 := (HB.out.cell (World.block_lt_of_cell? w _ hx183_5)).trans hx183_5; replace hx183_6 := (HB.out.cell (World.block_lt_of_cell? w _ hx183_6)).trans hx183_6; have HR183_3 := Aside0.mk hi183_3; have HC183_3 := Aside0.mk hl183_3; clear hi183_3 hl183_3; have HR183_6 := Aside0.mk hi183_6; have HC183_6 := Aside0.mk hl183_6; clear hi183_6 hl183_6; replace p183 := eq_true p183; replace q183 := eq_true q183) | (go_at_call 21; (with_reducible refine (limelightref04_Above.calls k _ _ l0 t182 a2 true _ ?side1 ?side2 A8.out).mono ?_); (case side1 => exact kcb_ ((Kd.C_below HR0.out HB.out))); (case side2 => exact HC0.out); rintro e w11 ⟨rfl, hb⟩; have n0_ := Aside0.mk (below_step bel_ hb); clear HB; have HB := n0_; clear n0_; (try clear hb); (try clear hb2); (try clear hk); (try clear hi)))
     go_ret
     exact ⟨by first | rfl | (simp [errW_none, errW_some] <;> rfl) | (simp [*, errW_none, errW_some] <;> rfl), bel_⟩
    ·replace c9 := Bool.eq_false_iff.mpr c9
     subst c9
     have H1 : ((limelightref04_Retarget.f k l0 ((rd_T53 l0 t182).f4) a2).bind fun t186 => (some t186)) = some r := by rw [if_neg (show ¬ (false = true) by decide)] at H; exact H
     clear H
     have H := H1
     clear H1
     replace H := Option.bind_eq_some_iff.mp H
     obtain ⟨t186, A120, H⟩ := H
     replace H : (some t186) = some r := H
     have A12 := Aside0.mk A120
     clear A120
     obtain rfl := Option.some.inj H
     go_enter Try.func18, Try.ntmps18
     go_wp2_with (first | ((with_reducible refine gate_callee (f := 20) rfl ?_); refine goesL_ (some 10) rfl rfl Try.func20 (by kernel_rfl) rfl #[.slice A0 l0.length c0, .int .i64 a1] rfl margs_ ?_; (with_reducible refine (limelightref03_Top.calls k _ _ l0 a1 t182 _ ?side1 ?side2 A4.out).mono ?_); (case side1 => exact kcb_ (HR0.out)); (case side2 => exact HC0.out); rintro e w13 ⟨rfl, hb⟩; refine ⟨_, rfl, ?_⟩; have n0_ := Aside0.mk (below_step bel_ hb); clear HB; have HB := n0_; clear n0_; (try clear hb); (try clear hb2); (try clear hk); (try clear hi); have p183 : 0 ≤ (t182 : Int) := of_decide_eq_true asm_; have q183 : t182 < (l0.length : Int) := of_decide_eq_true asm_; obtain ⟨ad183, A183_3, c183_3, A183_6, c183_6, e183, hx183_0, hx183_1, hx183_2, hx183_3, hx183_4, hx183_5, hx183_6, hl183_3, hi183_3, hl183_6, hi183_6⟩ := at_T53 HR0.out t182 p183 q183; cases e183; replace hx183_0 := (HB.out.cell (World.block_lt_of_cell? w _ hx183_0)).trans hx183_0; replace hx183_1 := (HB.out.cell (World.block_lt_of_cell? w _ hx183_1)).trans hx183_1; replace hx183_2 := (HB.out.cell (World.block_lt_of_cell? w _ hx183_2)).trans hx183_2; replace hx183_3 := (HB.out.cell (World.block_lt_of_cell? w _ hx183_3)).trans hx183_3; replace hx183_4 := (HB.out.cell (World.block_lt_of_cell? w _ hx183_4)).trans hx183_4; replace hx183_5 := (HB.out.cell (World.block_lt_of_cell? w _ hx183_5)).trans hx183_5; replace hx183_6 := (HB.out.cell (World.block_lt_of_cell? w _ hx183_6)).trans hx183_6; have HR183_3 := Aside0.mk hi183_3; have HC183_3 := Aside0.mk hl183_3; clear hi183_3 hl183_3; have HR183_6 := Aside0.mk hi183_6; have HC183_6 := Aside0.mk hl183_6; clear hi183_6 hl183_6; replace p183 := eq_true p183; replace q183 := eq_true q183) | (go_at_call 21; (with_reducible refine (limelightref04_Above.calls k _ _ l0 t182 a2 false _ ?side1 ?side2 A8.out).mono ?_); (case side1 => exact kcb_ ((Kd.C_below HR0.out HB.out))); (case side2 => exact HC0.out); rintro e w14 ⟨rfl, hb⟩; have n0_ := Aside0.mk (below_step bel_ hb); clear HB; have HB := n0_; clear n0_; (try clear hb); (try clear hb2); (try clear hk); (try clear hi); have p185 : 0 ≤ (t182 : Int) := of_decide_eq_true asm_; have q185 : t182 < (l0.length : Int) := of_decide_eq_true asm_; obtain ⟨ad185, A185_3, c185_3, A185_6, c185_6, e185, hx185_0, hx185_1, hx185_2, hx185_3, hx185_4, hx185_5, hx185_6, hl185_3, hi185_3, hl185_6, hi185_6⟩ := at_T53 HR0.out t182 p185 q185; obtain rfl : ad183 = ad185 := (by injection e185); replace hx185_0 := (HB.out.cell (World.block_lt_of_cell? w _ hx185_0)).trans hx185_0; replace hx185_1 := (HB.out.cell (World.block_lt_of_cell? w _ hx185_1)).trans hx185_1; replace hx185_2 := (HB.out.cell (World.block_lt_of_cell? w _ hx185_2)).trans hx185_2; replace hx185_3 := (HB.out.cell (World.block_lt_of_cell? w _ hx185_3)).trans hx185_3; replace hx185_4 := (HB.out.cell (World.block_lt_of_cell? w _ hx185_4)).trans hx185_4; replace hx185_5 := (HB.out.cell (World.block_lt_of_cell? w _ hx185_5)).trans hx185_5; replace hx185_6 := (HB.out.cell (World.block_lt_of_cell? w _ hx185_6)).trans hx185_6; have HR185_3 := Aside0.mk hi185_3; have HC185_3 := Aside0.mk hl185_3; clear hi185_3 hl185_3; have HR185_6 := Aside0.mk hi185_6; have HC185_6 := Aside0.mk hl185_6; clear hi185_6 hl185_6; replace p185 := eq_true p185; replace q185 := eq_true q185) | ((with_reducible refine gate_callee (f := 18) rfl ?_); refine goesL_ (some 31) rfl rfl Try.func18 (by kernel_rfl) rfl #[.slice (some ad183) l0.length c0, .int .i64 ((rd_T53 l0 t182).f4), .int .i64 a2] rfl margs_ ?_; (with_reducible refine (ih k (by omega) _ _ l0 ((rd_T53 l0 t182).f4) a2 t186 _ ?side1 ?side2 A12.out).mono ?_); (case side1 => exact kcb_ ((Kd.C_below HR0.out HB.out))); (case side2 => exact HC0.out); rintro e w15 ⟨rfl, hb⟩; refine ⟨_, rfl, ?_⟩; have n0_ := Aside0.mk (below_step bel_ hb); clear HB; have HB := n0_; clear n0_; (try clear hb); (try clear hb2); (try clear hk); (try clear hi)))
     go_ret
     exact ⟨by first | rfl | (simp [errW_none, errW_some] <;> rfl) | (simp [*, errW_none, errW_some] <;> rfl), bel_⟩
   ·rw [if_neg c7] at H
    have c7b0 : (((rd_T53 l0 t182).f0) == 3) = false := beq_eq_false_iff_ne.mpr c7
    have c7b1 : (((rd_T53 l0 t182).f0) != 3) = true := bne_iff_ne.mpr c7
    obtain rfl := Option.some.inj H
    go_enter Try.func18, Try.ntmps18
    go_wp2_with (first | ((with_reducible refine gate_callee (f := 20) rfl ?_); refine goesL_ (some 10) rfl rfl Try.func20 (by kernel_rfl) rfl #[.slice A0 l0.length c0, .int .i64 a1] rfl margs_ ?_; (with_reducible refine (limelightref03_Top.calls k _ _ l0 a1 t182 _ ?side1 ?side2 A4.out).mono ?_); (case side1 => exact kcb_ (HR0.out)); (case side2 => exact HC0.out); rintro e w16 ⟨rfl, hb⟩; refine ⟨_, rfl, ?_⟩; have n0_ := Aside0.mk (below_step bel_ hb); clear HB; have HB := n0_; clear n0_; (try clear hb); (try clear hb2); (try clear hk); (try clear hi); have p183 : 0 ≤ (t182 : Int) := of_decide_eq_true asm_; have q183 : t182 < (l0.length : Int) := of_decide_eq_true asm_; obtain ⟨ad183, A183_3, c183_3, A183_6, c183_6, e183, hx183_0, hx183_1, hx183_2, hx183_3, hx183_4, hx183_5, hx183_6, hl183_3, hi183_3, hl183_6, hi183_6⟩ := at_T53 HR0.out t182 p183 q183; cases e183; replace hx183_0 := (HB.out.cell (World.block_lt_of_cell? w _ hx183_0)).trans hx183_0; replace hx183_1 := (HB.out.cell (World.block_lt_of_cell? w _ hx183_1)).trans hx183_1; replace hx183_2 := (HB.out.cell (World.block_lt_of_cell? w _ hx183_2)).trans hx183_2; replace hx183_3 := (HB.out.cell (World.block_lt_of_cell? w _ hx183_3)).trans hx183_3; replace hx183_4 := (HB.out.cell (World.block_lt_of_cell? w _ hx183_4)).trans hx183_4; replace hx183_5 := (HB.out.cell (World.block_lt_of_cell? w _ hx183_5)).trans hx183_5; replace hx183_6 := (HB.out.cell (World.block_lt_of_cell? w _ hx183_6)).trans hx183_6; have HR183_3 := Aside0.mk hi183_3; have HC183_3 := Aside0.mk hl183_3; clear hi183_3 hl183_3; have HR183_6 := Aside0.mk hi183_6; have HC183_6 := Aside0.mk hl183_6; clear hi183_6 hl183_6; replace p183 := eq_true p183; replace q183 := eq_true q183))
    go_ret
    exact ⟨by first | rfl | (simp [errW_none, errW_some] <;> rfl) | (simp [*, errW_none, errW_some] <;> rfl), bel_⟩
  ·rw [if_neg c6] at H
   exact absurd H (by simp)
 ·rw [if_neg c5] at H
  exact absurd H (by simp)

end Go.Proofs.Ytbdokcdnajdmaaa.P
