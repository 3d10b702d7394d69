/- Plain law: words for the printed functions: from some number of rounds on. No conditions. Plain law: what the printed functions of tree order tell. No conditions. Plain law: what the document's functions of tree order tell. No conditions. Plain law: places in tree order, tops. No conditions. -/
import Derived.Test.YtiekphenmbigeaaME
import Derived.Test.YtiekphenmbigeaaMA
import Derived.Test.YtiekphenmbigeaaPx1
import Derived.Test.YtiekphenmbigeaaMD
import Derived.Test.YtiekphenmbigeaaPx2
namespace Go.Proofs.Ytiekphenmbigeaa.P
open Go.RowKit Go.Proofs.YtiekphenmbigeaaW.PrintWords Go.Proofs.YtiekphenmbigeaaW.PrintLast Go.Proofs.YtiekphenmbigeaaW.PrintMore
set_option linter.unusedVariables false
set_option linter.unusedSimpArgs false

theorem w1 {i : Nat} (h : i < 4611686018427387904) : wrap64 ((i : Int) + 1) = ((i + 1 : Nat) : Int) := by
  unfold wrap64; omega
theorem wm1 {i : Nat} (h : i < 4611686018427387904) : wrap64 (((i + 1 : Nat) : Int) - 1) = (i : Int) := by
  unfold wrap64; omega
theorem wid {x : Int} (h : -4611686018427387904 ≤ x) (h2 : x < 4611686018427387904) : wrap64 x = x := by
  unfold wrap64; omega
theorem Ev.pure {α : Type} {x : Option α} {r : α} (h : x = some r) : Ev (fun _ => x) r := ⟨0, fun _ _ => h⟩
theorem Ev.plain {α : Type} {g : Nat → Option α} {r : α} (h : ∀ k, g k = some r) : Ev g r := ⟨0, fun k _ => h k⟩
theorem Ev.cast {α : Type} {g : Nat → Option α} {r r' : α} (h : Ev g r) (e : r = r') : Ev g r' := e ▸ h
theorem Ev.ite {α : Type} {c : Prop} [Decidable c] {g f : Nat → Option α} {r : α} (h1 : c → Ev g r) (h2 : ¬ c → Ev f r) : Ev (fun k => if c then g k else f k) r := by
  by_cases hc : c
  · simp only [hc, if_true]; exact h1 hc
  · simp only [hc, if_false]; exact h2 hc
theorem Ev.yes {α : Type} {c : Prop} [Decidable c] {g f : Nat → Option α} {r : α} (hc : c) (h1 : Ev g r) : Ev (fun k => if c then g k else f k) r := Ev.ite (fun _ => h1) (fun h => absurd hc h)
theorem Ev.no {α : Type} {c : Prop} [Decidable c] {g f : Nat → Option α} {r : α} (hc : ¬ c) (h1 : Ev f r) : Ev (fun k => if c then g k else f k) r := Ev.ite (fun h => absurd h hc) (fun _ => h1)
/-- A loop that counts up to n, with a state that the count tells. -/
theorem Ev.up {α σ : Type} {L : Nat → Int → σ → Option α} {r : α} (n : Nat) (s : Nat → σ) (hend : Ev (fun k => L k (n : Int) (s n)) r)
    (hstep : ∀ i : Nat, i < n → Ev (fun k => L k ((i + 1 : Nat) : Int) (s (i + 1))) r → Ev (fun k => L k (i : Int) (s i)) r) : ∀ i : Nat, i ≤ n → Ev (fun k => L k (i : Int) (s i)) r := by
  have key : ∀ d i : Nat, i + d = n → Ev (fun k => L k (i : Int) (s i)) r := by
    intro d
    induction d with
    | zero => intro i hi; obtain rfl : i = n := by omega
              exact hend
    | succ d ih => intro i hi; exact hstep i (by omega) (ih (i + 1) (by omega))
  exact fun i hi => key (n - i) i (by omega)
theorem Ev.up0 {α : Type} {L : Nat → Int → Option α} {r : α} (n : Nat) (hend : Ev (fun k => L k (n : Int)) r)
    (hstep : ∀ i : Nat, i < n → Ev (fun k => L k ((i + 1 : Nat) : Int)) r → Ev (fun k => L k (i : Int)) r) : Ev (fun k => L k 0) r :=
  Ev.up (L := fun k i (_ : Unit) => L k i) n (fun _ => ()) hend hstep 0 (Nat.zero_le _)

theorem rd_nat {l : List Int} {i : Nat} (h : i < l.length) : rd l (i : Int) = l[i] := by simp [rd, h]
section
variable (l : List S38) (i : Int)
theorem rd_kind : (rd_T38 l i).f0 = (Lime.nd (tr l) i).kind := by rw [nd_tr]; rfl
theorem rd_tag : (rd_T38 l i).f1 = (Lime.nd (tr l) i).tag := by rw [nd_tr]; rfl
theorem rd_parent : (rd_T38 l i).f2 = (Lime.nd (tr l) i).parent := by rw [nd_tr]; rfl
theorem rd_kids : (rd_T38 l i).f3 = (Lime.nd (tr l) i).kids := by rw [nd_tr]; rfl
theorem rd_host : (rd_T38 l i).f4 = (Lime.nd (tr l) i).host := by rw [nd_tr]; rfl
theorem rd_root : (rd_T38 l i).f5 = (Lime.nd (tr l) i).root := by rw [nd_tr]; rfl
end
theorem isN_lt {l : List S38} {n : Int} (h : Lime.isN (tr l) n = true) : 0 ≤ n ∧ n < (l.length : Int) := by
  have := Lime.isN_iff.1 h
  rwa [tr_length] at this
theorem isN_nat' {l : List S38} {n : Int} (h : Lime.isN (tr l) n = true) : ∃ k : Nat, n = k ∧ k < l.length := by
  obtain ⟨k, h1, h2⟩ := Lime.isN_nat h
  rw [tr_length] at h2
  exact ⟨k, h1, h2⟩
theorem isN_of' {l : List S38} {k : Nat} (h : k < l.length) : Lime.isN (tr l) (k : Int) = true := Lime.isN_of (by rw [tr_length]; exact h)
/-- Where a number stands first; -1: nowhere. -/
def plc (l : List Int) (a : Int) : Int := Lime.idx (· == a) l
theorem plc_iff {l : List Int} {a : Int} : 0 ≤ plc l a ↔ a ∈ l := by
  have h := Lime.idx_any (· == a) l
  rw [← decide_eq_true_iff (p := 0 ≤ plc l a)]
  show decide (0 ≤ Lime.idx (· == a) l) = true ↔ _
  rw [h]; simp
theorem plc_none {l : List Int} {a : Int} (h : a ∉ l) : plc l a = -1 := by
  rcases Lime.idxFrom_ge (· == a) l 0 with h1 | h1
  · exact h1
  · exact absurd (plc_iff.1 h1) h
theorem idxFrom_off (l : List Int) (a : Int) : ∀ m : Int, a ∈ l → Lime.idxFrom (· == a) m l = m + plc l a := by
  induction l with
  | nil => intro m h; simp at h
  | cons x l ih =>
    intro m h
    simp only [plc, Lime.idx, Lime.idxFrom]
    by_cases hx : x = a
    · simp [hx]
    · have h1 : a ∈ l := by
        rcases List.mem_cons.1 h with h | h
        · exact absurd h.symm hx
        · exact h
      simp only [beq_iff_eq, hx, if_false]
      rw [ih (m + 1) h1, ih (0 + 1) h1]; omega
theorem plc_cons (x : Int) (l : List Int) (a : Int) : plc (x :: l) a = if x = a then 0 else if a ∈ l then plc l a + 1 else -1 := by
  by_cases hx : x = a
  · simp [plc, Lime.idx, Lime.idxFrom, hx]
  · rw [if_neg hx]
    by_cases h : a ∈ l
    · rw [if_pos h]
      show Lime.idxFrom (· == a) 0 (x :: l) = _
      rw [Lime.idxFrom]
      simp only [beq_iff_eq, hx, if_false]
      rw [idxFrom_off l a _ h]; omega
    · rw [if_neg h]
      exact plc_none (by rw [List.mem_cons]; rintro (h1 | h1); exact hx h1.symm; exact h h1)
theorem plc_ge (l : List Int) (a : Int) : -1 ≤ plc l a := by
  rcases Lime.idxFrom_ge (· == a) l 0 with h1 | h1
  · exact Int.le_of_eq h1.symm
  · have : 0 ≤ plc l a := h1
    omega
/-- The first of those of which p holds; -1: none. -/
def firstOf (p : Int → Bool) (l : List Int) : Int := (l.find? p).getD (-1)
theorem firstOf_cons (p : Int → Bool) (x : Int) (l : List Int) : firstOf p (x :: l) = if p x = true then x else firstOf p l := by
  unfold firstOf
  rw [List.find?_cons]
  cases p x <;> simp
theorem drop_at {α : Type} {l : List α} {i : Nat} (h : i < l.length) : l.drop i = l[i] :: l.drop (i + 1) := List.drop_eq_getElem_cons h
end Go.Proofs.Ytiekphenmbigeaa.P
namespace Go.Proofs.Ytiekphenmbigeaa.P
open Go.RowKit Go.Proofs.YtiekphenmbigeaaW.PrintWords Go.Proofs.YtiekphenmbigeaaW.PrintLast Go.Proofs.YtiekphenmbigeaaW.PrintMore
set_option linter.unusedVariables false
set_option linter.unusedSimpArgs false

theorem index_l (l : List Int) (a : Int) (hl : l.length < 1000000) : ∀ d i : Nat, i + d = l.length → Ev (fun k => slices_Index_int_int.l0 k l a l.length i) (Lime.idxFrom (· == a) i (l.drop i)) := by
  intro d
  induction d with
  | zero =>
    intro i hi
    refine Ev.step (fun k => by rw [slices_Index_int_int.l0]) ?_
    refine Ev.no (by omega) ?_
    exact Ev.pure (by rw [List.drop_eq_nil_of_le (by omega)]; rfl)
  | succ d ih =>
    intro i hi
    have hlt : i < l.length := by omega
    refine Ev.step (fun k => by rw [slices_Index_int_int.l0]) ?_
    refine Ev.yes (by omega) (Ev.yes (by omega) (Ev.yes (by omega) ?_))
    rw [rd_nat hlt, w1 (by omega), drop_at hlt, Lime.idxFrom]
    by_cases hx : l[i] = a
    · refine Ev.yes hx.symm (Ev.pure ?_)
      simp [hx]
    · refine Ev.no (fun h => hx h.symm) ?_
      simp only [beq_iff_eq, hx, if_false]
      exact ih (i + 1) (by omega)
theorem index_ev (l : List Int) (a : Int) (hl : l.length < 1000000) : Ev (fun k => slices_Index_int_int.f k l a) (plc l a) := index_l l a hl l.length 0 (by omega)
theorem contains_ev (l : List Int) (a : Int) (hl : l.length < 1000000) : Ev (fun k => slices_Contains_int_int.f k l a) (decide (a ∈ l)) :=
  Ev.bind (f := fun _ t => some (decide (t ≥ 0))) (index_ev l a hl) (Ev.pure (by congr 1; exact decide_eq_decide.2 plc_iff))

section
variable {l : List S38} (hs : Lime.smallT (tr l) = true)
include hs
theorem List_f (n : Int) : order_List.f l n = some (Lime.listR (tr l) n) := ifSmall_yes hs
theorem Up_f (n : Int) : order_Up.f l n = some (Lime.upsR (tr l) n) := ifSmall_yes hs
theorem Top_f (n : Int) : order_Top.f l n = some (Lime.topR (tr l) n) := ifSmall_yes hs
theorem Before_f (a b : Int) : order_Before.f l a b = some (Lime.beforeR (tr l) a b) := ifSmall_yes hs
theorem all_f (ns : List Int) : order_all.f l ns = some (Lime.allT (tr l) ns) := ifSmall_yes hs
theorem small_len : l.length ≤ 70 := by
  have h := hs
  simp only [Lime.smallT, Bool.and_eq_true, decide_eq_true_eq, tr_length] at h
  exact h.1
end
theorem ups_len {t : List Lime.Nd} (n : Int) : (Lime.upsR t n).length ≤ t.length + 1 := by
  unfold Lime.upsR
  split
  · exact Lime.chain_le _ _ _
  · simp
def aboveR (t : List Lime.Nd) (a b : Int) : Bool := decide (a ∈ Lime.upsR t b)
theorem aboveR_isN {t : List Lime.Nd} {a b : Int} (h : a ∈ Lime.upsR t b) : Lime.mayT t = true ∧ Lime.isN t a = true ∧ Lime.isN t b = true ∧ a ∈ Lime.upsP t b := by
  unfold Lime.upsR at h
  split at h
  · rename_i h1
    exact ⟨h1.1, (Lime.May.of h1.1).upsP_isN (.inr h1.2) h, h1.2, h⟩
  · simp at h
section
variable {l : List S38} (hs : Lime.smallT (tr l) = true)
include hs
theorem above_ev (a b : Int) : Ev (fun k => order_Above.f k l a b) (aboveR (tr l) a b) := by
  have hl := small_len hs
  have h2 := ups_len (t := tr l) b
  rw [tr_length] at h2
  simp only [order_Above.f, Up_f hs, all_f hs, Option.bind_some]
  refine Ev.bind (contains_ev _ _ (by omega)) ?_
  unfold aboveR
  by_cases h : a ∈ Lime.upsR (tr l) b
  · obtain ⟨h1, h3, _⟩ := aboveR_isN h
    refine Ev.yes (by simpa using h) (Ev.pure ?_)
    simp [Lime.allT, h1, h3, h]
  · refine Ev.no (by simpa using h) (Ev.pure ?_)
    simp [h]
theorem common_l (ns : List Int) (hn : ns.length < 1000000) (b : Int) : ∀ d i : Nat, i + d = ns.length → Ev (fun k => order_Common.l0 k l b ns ns.length i) (firstOf (fun n => aboveR (tr l) n b) (ns.drop i)) := by
  intro d
  induction d with
  | zero =>
    intro i hi
    refine Ev.step (fun k => by rw [order_Common.l0]) ?_
    refine Ev.no (by omega) ?_
    exact Ev.pure (by rw [List.drop_eq_nil_of_le (by omega)]; rfl)
  | succ d ih =>
    intro i hi
    have hlt : i < ns.length := by omega
    refine Ev.step (fun k => by rw [order_Common.l0]) ?_
    refine Ev.yes (by omega) (Ev.yes (by omega) (Ev.yes (by omega) ?_))
    rw [rd_nat hlt, w1 (by omega), drop_at hlt, firstOf_cons]
    refine Ev.bind (above_ev hs _ _) ?_
    by_cases hx : aboveR (tr l) ns[i] b = true
    · refine Ev.yes hx (Ev.pure ?_)
      simp [hx]
    · refine Ev.no hx ?_
      rw [if_neg hx]
      exact ih (i + 1) (by omega)
def commonR (t : List Lime.Nd) (a b : Int) : Int := firstOf (fun n => aboveR t n b) (Lime.upsR t a)
theorem common_ev (a b : Int) : Ev (fun k => order_Common.f k l a b) (commonR (tr l) a b) := by
  have hl := small_len hs
  have h2 := ups_len (t := tr l) a
  rw [tr_length] at h2
  simp only [order_Common.f, Up_f hs, Option.bind_some]
  exact common_l hs _ (by omega) b (Lime.upsR (tr l) a).length 0 (by omega)
end
theorem live_ev : Ev (fun k => limelightlaw03_live.f k) true := Ev.of limelightlaw03_live.mono (k := 20) (by decide +kernel)
end Go.Proofs.Ytiekphenmbigeaa.P
namespace Go.Proofs.Ytiekphenmbigeaa.P
open Go.RowKit Go.Proofs.YtiekphenmbigeaaW.PrintWords Go.Proofs.YtiekphenmbigeaaW.PrintLast Go.Proofs.YtiekphenmbigeaaW.PrintMore
set_option linter.unusedVariables false
set_option linter.unusedSimpArgs false
set_option linter.unusedSectionVars false

theorem place_l (l : List Int) (a : Int) (hl : l.length < 1000000) : ∀ d i : Nat, i + d = l.length → Ev (fun k => limelightref03_Place.l0 k l a i) (Lime.idxFrom (· == a) i (l.drop i)) := by
  intro d
  induction d with
  | zero =>
    intro i hi
    refine Ev.step (fun k => by rw [limelightref03_Place.l0]) ?_
    refine Ev.no (by omega) ?_
    exact Ev.pure (by rw [List.drop_eq_nil_of_le (by omega)]; rfl)
  | succ d ih =>
    intro i hi
    have hlt : i < l.length := by omega
    refine Ev.step (fun k => by rw [limelightref03_Place.l0]) ?_
    refine Ev.yes (by omega) (Ev.yes (by omega) ?_)
    rw [rd_nat hlt, w1 (by omega), drop_at hlt, Lime.idxFrom]
    by_cases hx : l[i] = a
    · refine Ev.yes hx (Ev.pure ?_)
      simp [hx]
    · refine Ev.no hx ?_
      simp only [beq_iff_eq, hx, if_false]
      exact ih (i + 1) (by omega)
theorem place_ev (l : List Int) (a : Int) (hl : l.length < 1000000) : Ev (fun k => limelightref03_Place.f k l a) (plc l a) := place_l l a hl l.length 0 (by omega)
theorem in_ev (l : List Int) (a : Int) (hl : l.length < 1000000) : Ev (fun k => limelightref03_In.f k l a) (decide (a ∈ l)) :=
  Ev.bind (f := fun _ t => some (decide (t ≥ 0))) (place_ev l a hl) (Ev.pure (by congr 1; exact decide_eq_decide.2 plc_iff))
def both (t : List Lime.Nd) (a b : Int) : Bool := Lime.mayT t && (Lime.isN t a && Lime.isN t b)
theorem both_f (l : List S38) (a b : Int) : limelightref03_Both.f l a b = some (both (tr l) a b) := by
  simp only [limelightref03_Both.f, limelightref01_May.f, limelightref01_Is.f, Option.bind_some, both]
  cases Lime.mayT (tr l) <;> cases Lime.isN (tr l) a <;> simp
section
variable {l : List S38} (M : Lime.May (tr l))
include M
theorem may_len : l.length ≤ 64 := by have := M.len2; rwa [tr_length] at this
theorem rup_l (n : Int) (hn : n = -1 ∨ Lime.isN (tr l) n = true) : ∀ acc : List Int, acc.length + (Lime.upsP (tr l) n).length < 1000000 → Ev (fun k => limelightref03_Up.l0 k l n acc) (acc ++ Lime.upsP (tr l) n) := by
  refine M.par_ind (P := fun n => ∀ acc : List Int, acc.length + (Lime.upsP (tr l) n).length < 1000000 → Ev (fun k => limelightref03_Up.l0 k l n acc) (acc ++ Lime.upsP (tr l) n)) ?_ ?_ n hn
  · intro acc ha
    refine Ev.step (fun k => by rw [limelightref03_Up.l0]) ?_
    refine Ev.yes rfl (Ev.pure ?_)
    rw [Lime.upsP_none, List.append_nil]
  · intro n hn ih acc ha
    have h1 := isN_lt hn
    rw [M.upsP_step hn] at ha ⊢
    simp only [List.length_cons] at ha
    refine Ev.step (fun k => by rw [limelightref03_Up.l0]) ?_
    refine Ev.no (M.ne1 hn) (Ev.yes (by omega) (Ev.yes h1.1 (Ev.yes h1.2 ?_)))
    rw [rd_parent]
    have := ih (acc ++ [n]) (by simp; omega)
    rw [List.append_assoc] at this
    exact this
theorem rup_ev {n : Int} (hn : Lime.isN (tr l) n = true) : Ev (fun k => limelightref03_Up.f k l n) (Lime.upsP (tr l) n) := by
  have h1 := M.upsP_le hn
  have h2 := M.len2
  exact rup_l M n (.inr hn) [] (by simp; omega)
theorem rlist_ev : ∀ (d : Nat) (n : Int), Lime.isN (tr l) n = true → (tr l).length < Lime.dep (tr l) n + d → Ev (fun k => limelightref03_List.f k l n) (Lime.listT (tr l) n) := by
  intro d
  induction d with
  | zero => intro n hn hd; have := M.dep_le hn; omega
  | succ d ih =>
    intro n hn hd
    have h1 := isN_lt hn
    have hle := M.listT_le hn
    have h64 := M.len2
    have hkl := Lime.nodup_isN (M.kids_nodup hn) (fun x hx => (M.kid hn hx).1)
    refine Ev.step (fun k => by rw [limelightref03_List.f]) ?_
    have key : ∀ e i : Nat, i + e = (Lime.nd (tr l) n).kids.length → ∀ acc : List Int, acc.length + (((Lime.nd (tr l) n).kids.drop i).flatMap (Lime.listT (tr l))).length < 1000 → Ev (fun k => limelightref03_List.l0 k l n acc i) (acc ++ ((Lime.nd (tr l) n).kids.drop i).flatMap (Lime.listT (tr l))) := by
      intro e
      induction e with
      | zero =>
        intro i hi acc ha
        refine Ev.step (fun k => by rw [limelightref03_List.l0]) ?_
        refine Ev.yes h1.1 (Ev.yes h1.2 (Ev.no (by rw [rd_kids]; omega) (Ev.pure ?_)))
        rw [List.drop_eq_nil_of_le (by omega)]; simp
      | succ e ihe =>
        intro i hi acc ha
        have hlt : i < (Lime.nd (tr l) n).kids.length := by omega
        rw [drop_at hlt, List.flatMap_cons, List.length_append] at ha
        obtain ⟨hk1, _, hk3⟩ := M.dep_kid hn (List.getElem_mem hlt)
        refine Ev.step (fun k => by rw [limelightref03_List.l0]) ?_
        refine Ev.yes h1.1 (Ev.yes h1.2 (Ev.yes (by rw [rd_kids]; omega) (Ev.yes (by omega) ?_)))
        rw [rd_kids, rd_nat hlt, w1 (by omega), drop_at hlt, List.flatMap_cons]
        refine Ev.bind (ih _ hk1 (by omega)) (Ev.yes (by omega) ?_)
        have := ihe (i + 1) (by omega) (acc ++ Lime.listT (tr l) (Lime.nd (tr l) n).kids[i]) (by rw [List.length_append]; omega)
        rw [List.append_assoc] at this
        exact this
    rw [M.listT_step hn] at hle ⊢
    have := key (Lime.nd (tr l) n).kids.length 0 (by omega) [n] (by simp at hle ⊢; omega)
    exact this
theorem rlist {n : Int} (hn : Lime.isN (tr l) n = true) : Ev (fun k => limelightref03_List.f k l n) (Lime.listT (tr l) n) := rlist_ev M _ n hn (Nat.lt_add_of_pos_left (by rw [M.dep_step hn]; omega))
theorem rtop_ev {n : Int} (hn : Lime.isN (tr l) n = true) : Ev (fun k => limelightref03_Top.f k l n) (Lime.topT (tr l) n) := by
  have h1 := M.upsP_le hn
  have h2 := M.len2
  have h0 : 0 < (Lime.upsP (tr l) n).length := by rw [M.upsP_step hn]; simp
  refine Ev.bind (rup_ev M hn) ?_
  have e : wrap64 (((Lime.upsP (tr l) n).length : Int) - 1) = (((Lime.upsP (tr l) n).length - 1 : Nat) : Int) := by rw [wid (by omega) (by omega)]; omega
  rw [e]
  refine Ev.yes (by omega) (Ev.yes (by omega) (Ev.pure ?_))
  rw [rd_nat (by omega), Lime.topT, List.getLastD_eq_getLast?, List.getLast?_eq_getElem?, List.getElem?_eq_getElem (by omega)]
  rfl
def rbefore (t : List Lime.Nd) (a b : Int) : Bool := decide (b ∈ Lime.listT t (Lime.topT t a)) && decide (plc (Lime.listT t (Lime.topT t a)) a < plc (Lime.listT t (Lime.topT t a)) b)
theorem rbefore_ev {a : Int} (ha : Lime.isN (tr l) a = true) (b : Int) : Ev (fun k => limelightref03_Before.f k l a b) (rbefore (tr l) a b) := by
  have ht := Lime.topT_isN M ha
  have hle := M.listT_le ht
  have h64 := M.len2
  refine Ev.bind (rtop_ev M ha) (Ev.bind (rlist M ht) (Ev.bind (in_ev _ _ (by omega)) ?_))
  unfold rbefore
  by_cases h : b ∈ Lime.listT (tr l) (Lime.topT (tr l) a)
  · refine Ev.yes (by simpa using h) (Ev.bind (place_ev _ _ (by omega)) (Ev.bind (place_ev _ _ (by omega)) (Ev.pure ?_)))
    simp [h]
  · refine Ev.no (by simpa using h) (Ev.pure ?_)
    simp [h]
theorem rcommon_l (ns ks : List Int) (h1 : ns.length < 1000000) (h2 : ks.length < 1000000) : ∀ d i : Nat, i + d = ns.length → Ev (fun k => limelightref03_Common.l0 k ns ks i) (firstOf (fun n => decide (n ∈ ks)) (ns.drop i)) := by
  intro d
  induction d with
  | zero =>
    intro i hi
    refine Ev.step (fun k => by rw [limelightref03_Common.l0]) ?_
    refine Ev.no (by omega) ?_
    exact Ev.pure (by rw [List.drop_eq_nil_of_le (by omega)]; rfl)
  | succ d ih =>
    intro i hi
    have hlt : i < ns.length := by omega
    refine Ev.step (fun k => by rw [limelightref03_Common.l0]) ?_
    refine Ev.yes (by omega) (Ev.yes (by omega) ?_)
    rw [rd_nat hlt, w1 (by omega), drop_at hlt, firstOf_cons]
    refine Ev.bind (in_ev _ _ h2) ?_
    by_cases hx : ns[i] ∈ ks
    · refine Ev.yes (by simpa using hx) (Ev.pure ?_)
      simp [hx]
    · refine Ev.no (by simpa using hx) ?_
      rw [if_neg (by simpa using hx)]
      exact ih (i + 1) (by omega)
theorem rcommon_ev {a b : Int} (ha : Lime.isN (tr l) a = true) (hb : Lime.isN (tr l) b = true) : Ev (fun k => limelightref03_Common.f k l a b) (commonR (tr l) a b) := by
  have h1 := M.upsP_le ha
  have h2 := M.upsP_le hb
  have h64 := M.len2
  refine Ev.bind (rup_ev M ha) (Ev.bind (rup_ev M hb) ?_)
  have hm := Lime.May.iff.2 M
  have e1 : Lime.upsR (tr l) a = Lime.upsP (tr l) a := if_pos ⟨hm, ha⟩
  have e2 : (fun n => aboveR (tr l) n b) = fun n => decide (n ∈ Lime.upsP (tr l) b) := by
    funext n
    unfold aboveR
    rw [show Lime.upsR (tr l) b = Lime.upsP (tr l) b from if_pos ⟨hm, hb⟩]
  unfold commonR
  rw [e1, e2]
  exact rcommon_l M _ _ (by omega) (by omega) (Lime.upsP (tr l) a).length 0 (by omega)
end
end Go.Proofs.Ytiekphenmbigeaa.P
namespace Go.Proofs.Ytiekphenmbigeaa.P
open Go.RowKit Go.Proofs.YtiekphenmbigeaaW.PrintWords Go.Proofs.YtiekphenmbigeaaW.PrintLast Go.Proofs.YtiekphenmbigeaaW.PrintMore
open Go.Proofs.Lime (May listT topT upsP parN isN nd mayT dep upsT upN)
set_option linter.unusedVariables false
set_option linter.unusedSimpArgs false
set_option linter.unusedSectionVars false

theorem plc_append (xs ys : List Int) (x : Int) : plc (xs ++ ys) x = if x ∈ xs then plc xs x else if x ∈ ys then xs.length + plc ys x else -1 := by
  induction xs with
  | nil =>
    by_cases h : x ∈ ys
    · simp [h]
    · simp [h, plc_none h]
  | cons z xs ih =>
    rw [List.cons_append, plc_cons, ih, plc_cons]
    by_cases hz : z = x
    · simp [hz]
    · have hz2 : ¬ x = z := fun h => hz h.symm
      simp only [hz, if_false, List.mem_append, List.mem_cons, hz2, false_or, List.length_cons]
      by_cases h1 : x ∈ xs
      · simp [h1]
      · by_cases h2 : x ∈ ys
        · simp [h1, h2]; omega
        · simp [h1, h2]
theorem plc_lt {l : List Int} {x : Int} : plc l x < l.length := by
  by_cases h : x ∈ l
  · obtain ⟨i, h1, h2, _⟩ := Lime.idx_nat (p := (· == x)) (xs := l) (plc_iff.2 h)
    have : plc l x = i := h1
    omega
  · rw [plc_none h]; omega
theorem plc_inj {l : List Int} {x y : Int} (hx : x ∈ l) (h : plc l x = plc l y) : x = y := by
  obtain ⟨i, h1, h2, h3⟩ := Lime.idx_nat (p := (· == x)) (xs := l) (plc_iff.2 hx)
  have hy : 0 ≤ plc l y := by rw [← h]; exact plc_iff.2 hx
  obtain ⟨j, g1, g2, g3⟩ := Lime.idx_nat (p := (· == y)) (xs := l) hy
  have e1 : plc l x = i := h1
  have e2 : plc l y = j := g1
  have : i = j := by omega
  subst this
  simp only [beq_iff_eq] at h3 g3
  rw [← h3, g3]
theorem plc_map {l : List Int} {i : Nat} (h : i < l.length) (hd : l.Nodup) : plc l l[i] = i := by
  obtain ⟨j, g1, g2, g3⟩ := Lime.idx_nat (p := (· == l[i])) (xs := l) (plc_iff.2 (List.getElem_mem h))
  have e2 : plc l l[i] = j := g1
  simp only [beq_iff_eq] at g3
  have := (List.getElem_inj hd).1 g3
  omega
theorem scan_true {a b : Int} (h : a ≠ b) : ∀ l : List Int, Lime.scanB a b true l = decide (b ∈ l)
  | [] => by simp [Lime.scanB]
  | n :: r => by
    rw [Lime.scanB, scan_true h r]
    by_cases h1 : n = a
    · have : ¬ b = n := by rintro rfl; exact h h1.symm
      simp [h1, Ne.symm h]
    · by_cases h2 : n = b
      · simp [h1, h2]
        exact .inl (fun e => h e.symm)
      · have : ¬ b = n := fun h3 => h2 h3.symm
        simp [h1, h2, this]
theorem scan_place {a b : Int} (h : a ≠ b) : ∀ l : List Int, a ∈ l → Lime.scanB a b false l = (decide (b ∈ l) && decide (plc l a < plc l b))
  | [], ha => by simp at ha
  | n :: r, ha => by
    rw [Lime.scanB, plc_cons, plc_cons]
    by_cases h1 : n = a
    · have hnb : ¬ n = b := by rw [h1]; exact h
      have hbn : ¬ b = n := fun e => hnb e.symm
      rw [if_pos h1, scan_true h r, if_pos h1, if_neg hnb]
      by_cases hb : b ∈ r
      · have := plc_iff.2 hb
        simp [hb]; omega
      · simp [hb, hbn]
    · have ha2 : a ∈ r := (List.mem_cons.1 ha).resolve_left (fun e => h1 e.symm)
      rw [if_neg h1, if_neg h1, if_pos ha2]
      by_cases h2 : n = b
      · have := plc_iff.2 ha2
        rw [if_pos h2, if_pos h2]
        symm
        simp only [Bool.and_eq_false_iff, decide_eq_false_iff_not]
        exact .inr (by omega)
      · rw [if_neg h2, if_neg h2, scan_place h r ha2]
        have hbn : ¬ b = n := fun e => h2 e.symm
        by_cases hb : b ∈ r
        · simp [hb]
        · simp [hb, hbn]

section
variable {t : List Lime.Nd} (M : May t)
include M
/-- Who is not a list's first stands behind its parent. -/
theorem parent_place : ∀ (d : Nat) (n y : Int), isN t n = true → t.length < dep t n + d → y ∈ listT t n → y ≠ n → parN t y ∈ listT t n ∧ plc (listT t n) (parN t y) < plc (listT t n) y := by
  intro d
  induction d with
  | zero => intro n y hn hd; have := M.dep_le hn; omega
  | succ d ih =>
    intro n y hn hd hy hne
    have hnd := M.nodup_listT hn
    rw [M.listT_step hn] at hy hnd ⊢
    have hyF := (List.mem_cons.1 hy).resolve_left hne
    obtain ⟨k, hk, hyk⟩ := List.mem_flatMap.1 hyF
    obtain ⟨hk1, hk2, hk3⟩ := M.dep_kid hn hk
    have hnF : n ∉ (nd t n).kids.flatMap (listT t) := (List.nodup_cons.1 hnd).1
    have hny : ¬ n = y := fun e => hne e.symm
    by_cases hyk2 : y = k
    · have hp : parN t y = n := by rw [hyk2]; exact (M.kid hn hk).2.2.1
      rw [hp]
      refine ⟨List.mem_cons_self, ?_⟩
      rw [plc_cons, plc_cons, if_pos rfl, if_neg hny, if_pos hyF]
      have := plc_iff.2 hyF
      omega
    · obtain ⟨h1, h2⟩ := ih k y hk1 (by omega) hyk hyk2
      have hpF : parN t y ∈ (nd t n).kids.flatMap (listT t) := List.mem_flatMap.2 ⟨k, hk, h1⟩
      have hnp : ¬ n = parN t y := fun e => hnF (e ▸ hpF)
      refine ⟨List.mem_cons_of_mem _ hpF, ?_⟩
      rw [plc_cons, plc_cons, if_neg hnp, if_pos hpF, if_neg hny, if_pos hyF]
      obtain ⟨k1, k2, hks⟩ := List.append_of_mem hk
      have hnd2 := (List.nodup_cons.1 hnd).2
      rw [hks, List.flatMap_append, List.flatMap_cons] at hnd2 ⊢
      have hdis := (List.nodup_append.1 hnd2).2.2
      have e1 : y ∉ k1.flatMap (listT t) := fun h => hdis y h y (List.mem_append_left _ hyk) rfl
      have e2 : parN t y ∉ k1.flatMap (listT t) := fun h => hdis _ h _ (List.mem_append_left _ h1) rfl
      have p1 : plc (k1.flatMap (listT t) ++ (listT t k ++ k2.flatMap (listT t))) y = (k1.flatMap (listT t)).length + plc (listT t k) y := by rw [plc_append, if_neg e1, if_pos (List.mem_append_left _ hyk), plc_append, if_pos hyk]
      have p2 : plc (k1.flatMap (listT t) ++ (listT t k ++ k2.flatMap (listT t))) (parN t y) = (k1.flatMap (listT t)).length + plc (listT t k) (parN t y) := by rw [plc_append, if_neg e2, if_pos (List.mem_append_left _ h1), plc_append, if_pos h1]
      rw [p1, p2]
      omega
theorem top_step {n : Int} (hn : isN t n = true) : topT t n = if parN t n = -1 then n else topT t (parN t n) := by
  unfold topT
  rw [M.upsP_step hn]
  split
  · rename_i h
    rw [h, Lime.upsP_none]; rfl
  · rename_i h
    have h1 := (M.parN_or hn).resolve_left h
    rw [M.upsP_step h1]
    rfl
theorem top_par {n : Int} (hn : isN t n = true) : parN t (topT t n) = -1 := by
  refine M.par_ind (P := fun n => isN t n = true → parN t (topT t n) = -1) (fun h => absurd rfl (M.ne1 h)) (fun n hn ih _ => ?_) n (.inr hn) hn
  rw [top_step M hn]
  split
  · assumption
  · rename_i h; exact ih ((M.parN_or hn).resolve_left h)
theorem top_mem {n : Int} (hn : isN t n = true) : topT t n ∈ upsP t n := by
  refine M.par_ind (P := fun n => isN t n = true → topT t n ∈ upsP t n) (fun h => absurd rfl (M.ne1 h)) (fun n hn ih _ => ?_) n (.inr hn) hn
  rw [top_step M hn, M.upsP_step hn]
  split
  · exact List.mem_cons_self
  · rename_i h; exact List.mem_cons_of_mem _ (ih ((M.parN_or hn).resolve_left h))
theorem top_above {a b : Int} (hb : isN t b = true) (h : a ∈ upsP t b) : topT t a = topT t b := by
  revert h
  refine M.par_ind (P := fun b => isN t b = true → a ∈ upsP t b → topT t a = topT t b) (fun h => absurd rfl (M.ne1 h)) (fun b hb ih _ => ?_) b (.inr hb) hb
  rw [M.upsP_step hb, List.mem_cons]
  rintro (rfl | h)
  · rfl
  · have hne : parN t b ≠ -1 := fun e => by rw [e, Lime.upsP_none] at h; simp at h
    rw [ih ((M.parN_or hb).resolve_left hne) h, top_step M hb, if_neg hne]
theorem top_top {a : Int} (ha : isN t a = true) : topT t (topT t a) = topT t a := top_above M ha (top_mem M ha)
theorem mem_list_top {n k : Int} (hn : isN t n = true) (hk : isN t k = true) : k ∈ listT t (topT t n) ↔ topT t k = topT t n := by
  rw [M.mem_listT (Lime.topT_isN M hn)]
  constructor
  · rintro ⟨_, h⟩
    rw [← top_above M hk h, top_top M hn]
  · intro h
    exact ⟨hk, h ▸ top_mem M hk⟩
theorem chain_next {n : Int} (hn : isN t n = true) : ∀ i (h : i + 1 < (upsP t n).length), parN t ((upsP t n)[i]'(by omega)) = (upsP t n)[i + 1] := by
  refine M.par_ind (P := fun n => isN t n = true → ∀ i (h : i + 1 < (upsP t n).length), parN t ((upsP t n)[i]'(by omega)) = (upsP t n)[i + 1]) (fun h => absurd rfl (M.ne1 h)) (fun n hn ih _ => ?_) n (.inr hn) hn
  have e := M.upsP_step hn
  intro i h
  have h2 : i + 1 < (n :: upsP t (parN t n)).length := by rw [← e]; exact h
  simp only [e]
  have hne : parN t n ≠ -1 := fun e => by rw [e, Lime.upsP_none] at h2; simp at h2
  have hp := (M.parN_or hn).resolve_left hne
  have e2 := M.upsP_step hp
  cases i with
  | zero => simp only [List.getElem_cons_zero, List.getElem_cons_succ, e2]
  | succ i =>
    simp only [List.getElem_cons_succ]
    simp only [List.length_cons] at h2
    exact ih hp i (by omega)
end
end Go.Proofs.Ytiekphenmbigeaa.P
