/- Trees that may be, in plain words: steps up, ways up, and how deep a node lies. Tree order in plain words: ways up by parents, tops, lists. Tree order in plain words: lists have each node once; who is in them. Shadows in plain words: hosts, ways up through hosts, what is told of a node to another one. Forests in plain words: who comes to whom going up, whoever is below, each once. Shadows in plain words: laws of what is told of a node to another one. -/
import Derived.Test.YtbbmdpmpbggmgaaMA
namespace Go.Proofs.Lime
open Go.RowKit
set_option linter.unusedVariables false
set_option linter.unusedSimpArgs false
set_option linter.unusedSectionVars false

theorem chain_more {s : Int → Int} : ∀ {f : Nat} {n : Int}, (chainIn s f n).length < f → ∀ g, f ≤ g → chainIn s g n = chainIn s f n
  | 0, _, h, _, _ => by simp at h
  | f + 1, n, h, 0, hg => by omega
  | f + 1, n, h, g + 1, hg => by
    rw [chainIn] at h ⊢
    rw [chainIn]
    split
    · rfl
    · rename_i hn
      rw [if_neg hn] at h
      rw [chain_more (f := f) (by simpa using h) g (by omega)]
theorem chain_mem {s : Int → Int} : ∀ {f : Nat} {n x : Int}, x ∈ chainIn s f n → x ≠ -1
  | 0, _, _, h => by simp [chainIn] at h
  | f + 1, n, x, h => by
    rw [chainIn] at h
    split at h
    · simp at h
    · rcases List.mem_cons.1 h with rfl | h
      · assumption
      · exact chain_mem h

structure May (t : List Nd) : Prop where mk ::
  len1 : 1 ≤ t.length
  len2 : t.length ≤ 64
  node : ∀ k : Nat, k < t.length → nodeOk t k = true
  ends : ∀ k : Nat, k < t.length → endsIn t (t.length + 1) k = true
theorem May.of {t : List Nd} (h : mayT t = true) : May t := by
  simp only [mayT, Bool.and_eq_true, decide_eq_true_eq, allTo_iff] at h
  exact ⟨h.1.1, h.1.2, h.2.1, h.2.2⟩
theorem May.iff {t : List Nd} : mayT t = true ↔ May t := by
  refine ⟨May.of, fun h => ?_⟩
  simp only [mayT, Bool.and_eq_true, decide_eq_true_eq, allTo_iff]
  exact ⟨⟨h.len1, h.len2⟩, h.node, h.ends⟩
def parN (t : List Nd) (n : Int) : Int := (nd t n).parent
section
variable {t : List Nd} (M : May t) {n : Int} (hn : isN t n = true)
include M hn
theorem May.parts : kindOk (nd t n) n = true ∧ attrsOk (nd t n) = true ∧ kidsOk t n = true ∧ shadowOk t n = true := by
  obtain ⟨k, rfl, hk⟩ := isN_nat hn
  have := M.node k hk
  simpa only [nodeOk, Bool.and_eq_true] using this
theorem May.kid {y : Int} (hy : y ∈ (nd t n).kids) : isN t y = true ∧ (nd t n).kids.count y = 1 ∧ parN t y = n ∧ ((nd t y).kind = 1 ∨ (nd t y).kind = 2) := by
  have h := (M.parts hn).2.2.1
  simp only [kidsOk, Bool.and_eq_true] at h
  have h1 := List.all_eq_true.1 h.1 y hy
  simpa only [kidOk, Bool.and_eq_true, Bool.or_eq_true, decide_eq_true_eq, parN] using h1
theorem May.par : parN t n = -1 ∨ (isN t (parN t n) = true ∧ (nd t (parN t n)).kids.count n = 1) := by
  have h := (M.parts hn).2.2.1
  simp only [kidsOk, Bool.and_eq_true, Bool.or_eq_true, decide_eq_true_eq] at h
  exact h.2.2
theorem May.par_mem (h : parN t n ≠ -1) : isN t (parN t n) = true ∧ n ∈ (nd t (parN t n)).kids := by
  obtain ⟨h1, h2⟩ := (M.par hn).resolve_left h
  exact ⟨h1, List.count_pos_iff.1 (by omega)⟩
theorem May.kinds : 0 ≤ (nd t n).kind ∧ (nd t n).kind ≤ 3 ∧ ((nd t n).kind = 0 ↔ n = 0) := by
  have h := (M.parts hn).1
  simp only [kindOk, Bool.and_eq_true, decide_eq_true_eq, beq_iff_eq, decide_eq_decide] at h
  exact ⟨h.2.1, h.2.2.1, h.1⟩
theorem May.sh3 (h : (nd t n).kind = 3) : (nd t n).root = -1 ∧ parN t n = -1 ∧ isN t (nd t n).host = true ∧ (nd t (nd t n).host).kind = 1 ∧ (nd t (nd t n).host).root = n := by
  have h1 := (M.parts hn).2.2.2
  rw [shadowOk, if_pos h] at h1
  simpa only [Bool.and_eq_true, decide_eq_true_eq, parN] using h1
theorem May.shn (h : (nd t n).kind ≠ 3) : (nd t n).host = -1 ∧ ((nd t n).root = -1 ∨ ((nd t n).kind = 1 ∧ isN t (nd t n).root = true ∧ (nd t (nd t n).root).kind = 3 ∧ (nd t (nd t n).root).host = n)) := by
  have h1 := (M.parts hn).2.2.2
  rw [shadowOk, if_neg h] at h1
  simpa only [Bool.and_eq_true, Bool.or_eq_true, decide_eq_true_eq] using h1
theorem May.up : upN t n = -1 ∨ isN t (upN t n) = true := by
  have hp := M.par hn
  rw [upN]
  split
  · rename_i h; exact .inr (M.sh3 hn h).2.2.1
  · rcases hp with h | h
    · exact .inl h
    · exact .inr h.1
theorem May.root {r : Int} (hr : (nd t n).root = r) (h : r ≠ -1) : (nd t n).kind = 1 ∧ isN t r = true ∧ (nd t r).kind = 3 ∧ (nd t r).host = n := by
  subst hr
  by_cases h3 : (nd t n).kind = 3
  · exact absurd (M.sh3 hn h3).1 h
  · exact (M.shn hn h3).2.resolve_left h
theorem May.ne1 : n ≠ -1 := by rintro rfl; simp [isN] at hn
end

/-- The way up from n. -/
def upsT (t : List Nd) (n : Int) : List Int := chainIn (upN t) (t.length + 1) n
def dep (t : List Nd) (n : Int) : Nat := (upsT t n).length
section
variable {t : List Nd} (M : May t) {n : Int} (hn : isN t n = true)
include M hn
theorem May.dep_le : dep t n ≤ t.length := by
  obtain ⟨k, rfl, hk⟩ := isN_nat hn
  have := M.ends k hk
  rw [ends_chain] at this
  have := of_decide_eq_true this
  unfold dep upsT; omega
theorem May.ups_step : upsT t n = n :: upsT t (upN t n) := by
  have h1 := M.dep_le hn
  have hne := M.ne1 hn
  unfold dep at h1
  unfold upsT at *
  rw [chain_step hne] at h1 ⊢
  congr 1
  symm
  apply chain_more _ _ (by omega)
  simp at h1
  omega
theorem May.dep_step : dep t n = dep t (upN t n) + 1 := by
  rw [dep, M.ups_step hn]; rfl
end
theorem upsT_none (t : List Nd) : upsT t (-1) = [] := chain_nil _ _
section
variable {t : List Nd} (M : May t)
include M
theorem May.dep_kid {n y : Int} (hn : isN t n = true) (hy : y ∈ (nd t n).kids) : isN t y = true ∧ upN t y = n ∧ dep t y = dep t n + 1 := by
  obtain ⟨h1, _, h2, h3⟩ := M.kid hn hy
  have hu : upN t y = n := by rw [upN, if_neg (by omega)]; exact h2
  exact ⟨h1, hu, by rw [M.dep_step h1, hu]⟩
theorem May.dep_root {n r : Int} (hn : isN t n = true) (hr : (nd t n).root = r) (h : r ≠ -1) : isN t r = true ∧ upN t r = n ∧ dep t r = dep t n + 1 := by
  obtain ⟨_, h1, h2, h3⟩ := M.root hn hr h
  have hu : upN t r = n := by rw [upN, if_pos h2]; exact h3
  exact ⟨h1, hu, by rw [M.dep_step h1, hu]⟩
/-- Induction on steps up. -/
theorem May.up_ind {P : Int → Prop} (h0 : P (-1)) (h : ∀ n, isN t n = true → P (upN t n) → P n) : ∀ n, (n = -1 ∨ isN t n = true) → P n := by
  have key : ∀ d n, (n = -1 ∨ isN t n = true) → dep t n = d → P n := by
    intro d
    induction d with
    | zero =>
      rintro n (rfl | hn) hd
      · exact h0
      · rw [M.dep_step hn] at hd; omega
    | succ d ih =>
      rintro n (rfl | hn) hd
      · exact h0
      · exact h n hn (ih _ (M.up hn) (by rw [M.dep_step hn] at hd; omega))
  exact fun n hn => key _ n hn rfl
theorem May.ups_mem {n x : Int} (hn : n = -1 ∨ isN t n = true) (hx : x ∈ upsT t n) : isN t x = true := by
  revert hx
  refine M.up_ind (P := fun n => x ∈ upsT t n → isN t x = true) (by rw [upsT_none]; simp) (fun n hn ih => ?_) n hn
  rw [M.ups_step hn, List.mem_cons]
  rintro (rfl | h)
  · exact hn
  · exact ih h
end
end Go.Proofs.Lime
namespace Go.Proofs.Lime
open Go.RowKit
set_option linter.unusedVariables false
set_option linter.unusedSimpArgs false
set_option linter.unusedSectionVars false

def upsP (t : List Nd) (n : Int) : List Int := chainIn (parN t) (t.length + 1) n
/-- A node and all below it, at most f deep. -/
def listIn (t : List Nd) : Nat → Int → List Int
  | 0, _ => []
  | f + 1, n => n :: (nd t n).kids.flatMap (listIn t f)
def listT (t : List Nd) (n : Int) : List Int := listIn t (t.length + 1) n
def topT (t : List Nd) (n : Int) : Int := (upsP t n).getLastD (-1)
section
variable {t : List Nd} (M : May t) {n : Int} (hn : isN t n = true)
include M hn
theorem May.par_up (h : (nd t n).kind ≠ 3) : upN t n = parN t n := by rw [upN, if_neg h]; rfl
theorem May.par_3 (h : (nd t n).kind = 3) : parN t n = -1 := (M.sh3 hn h).2.1
end
theorem May.upsP_len {t : List Nd} (M : May t) : ∀ (f : Nat) (n : Int), (n = -1 ∨ isN t n = true) → (chainIn (parN t) f n).length ≤ (chainIn (upN t) f n).length
  | 0, _, _ => by simp [chainIn]
  | f + 1, n, hn => by
    rcases hn with rfl | hn
    · simp [chain_nil]
    · rw [chain_step (M.ne1 hn), chain_step (M.ne1 hn)]
      by_cases h3 : (nd t n).kind = 3
      · rw [M.par_3 hn h3, chain_nil]; simp
      · have := May.upsP_len M f (parN t n) ((M.par hn).imp id And.left)
        rw [M.par_up hn h3]
        simpa using this
theorem May.upsP_le {t : List Nd} (M : May t) {n : Int} (hn : isN t n = true) : (upsP t n).length ≤ t.length := by
  have h1 := M.upsP_len (t.length + 1) n (.inr hn)
  have h2 := M.dep_le hn
  unfold dep upsT at h2
  unfold upsP
  omega
theorem May.upsP_step {t : List Nd} (M : May t) {n : Int} (hn : isN t n = true) : upsP t n = n :: upsP t (parN t n) := by
  have h1 := M.upsP_le hn
  have hne := M.ne1 hn
  unfold upsP at *
  rw [chain_step hne] at h1 ⊢
  congr 1
  symm
  apply chain_more _ _ (by omega)
  simp at h1
  omega
theorem upsP_none (t : List Nd) : upsP t (-1) = [] := chain_nil _ _
theorem flatMap_eq {α β : Type} {f g : α → List β} : ∀ {l : List α}, (∀ x ∈ l, f x = g x) → l.flatMap f = l.flatMap g
  | [], _ => rfl
  | x :: l, h => by rw [List.flatMap_cons, List.flatMap_cons, h x List.mem_cons_self, flatMap_eq (fun y hy => h y (List.mem_cons_of_mem _ hy))]
/-- A list as deep as need be is the whole one. -/
theorem May.listIn_more {t : List Nd} (M : May t) : ∀ (f : Nat) (n : Int), isN t n = true → t.length < dep t n + f → ∀ g, f ≤ g → listIn t g n = listIn t f n
  | 0, n, hn, hf, g, hg => by have := M.dep_le hn; omega
  | f + 1, n, hn, hf, 0, hg => by omega
  | f + 1, n, hn, hf, g + 1, hg => by
    rw [listIn, listIn]
    congr 1
    apply flatMap_eq
    intro y hy
    obtain ⟨h1, h2, h3⟩ := M.dep_kid hn hy
    exact May.listIn_more M f y h1 (by omega) g (by omega)
theorem May.listT_step {t : List Nd} (M : May t) {n : Int} (hn : isN t n = true) : listT t n = n :: (nd t n).kids.flatMap (listT t) := by
  have hd : 1 ≤ dep t n := by rw [M.dep_step hn]; omega
  unfold listT
  rw [listIn]
  congr 1
  apply flatMap_eq
  intro y hy
  obtain ⟨h1, h2, h3⟩ := M.dep_kid hn hy
  exact (M.listIn_more _ y h1 (by omega) _ (by omega)).symm
theorem May.listT_in {t : List Nd} (M : May t) {n : Int} (hn : isN t n = true) {f : Nat} (hf : t.length < dep t n + f) : listIn t f n = listT t n := by
  unfold listT
  rcases Nat.le_total f (t.length + 1) with h | h
  · exact (M.listIn_more f n hn hf _ h).symm
  · exact M.listIn_more _ n hn (by omega) _ h
end Go.Proofs.Lime
namespace Go.Proofs.Lime
open Go.RowKit
set_option linter.unusedVariables false
set_option linter.unusedSimpArgs false
set_option linter.unusedSectionVars false

theorem nodup_lt : ∀ (n : Nat) (l : List Nat), l.Nodup → (∀ x ∈ l, x < n) → l.length ≤ n
  | 0, l, _, h => by
    cases l with
    | nil => simp
    | cons x l => exact absurd (h x List.mem_cons_self) (by omega)
  | n + 1, l, hd, h => by
    have h1 := nodup_lt n (l.erase n) (hd.erase n) (fun x hx => by
      have h2 := h x (List.mem_of_mem_erase hx)
      have h3 : x ≠ n := by rintro rfl; exact absurd hx (List.Nodup.not_mem_erase hd)
      omega)
    have h2 := List.length_erase (a := n) (l := l)
    split at h2 <;> omega
theorem nodup_isN {t : List Nd} {l : List Int} (hd : l.Nodup) (h : ∀ x ∈ l, isN t x = true) : l.length ≤ t.length := by
  have h1 := nodup_lt t.length (l.map Int.toNat) (by
    rw [List.nodup_iff_pairwise_ne, List.pairwise_map]
    refine List.Pairwise.imp_of_mem (fun ha hb hab => ?_) hd
    have h1 := isN_iff.1 (h _ ha)
    have h2 := isN_iff.1 (h _ hb)
    omega) (fun x hx => by
    obtain ⟨y, hy, rfl⟩ := List.mem_map.1 hx
    have := isN_iff.1 (h y hy)
    omega)
  simpa using h1

section
variable {t : List Nd} (M : May t)
include M
theorem May.par_ind {P : Int → Prop} (h0 : P (-1)) (h : ∀ n, isN t n = true → P (parN t n) → P n) : ∀ n, (n = -1 ∨ isN t n = true) → P n := by
  refine fun n hn => M.up_ind (P := fun n => P n) h0 (fun n hn ih => h n hn ?_) n hn
  by_cases h3 : (nd t n).kind = 3
  · rw [M.par_3 hn h3]; exact h0
  · rw [← M.par_up hn h3]; exact ih
theorem May.upsP_isN {n x : Int} (hn : n = -1 ∨ isN t n = true) (hx : x ∈ upsP t n) : isN t x = true := by
  revert hx
  refine M.par_ind (P := fun n => x ∈ upsP t n → isN t x = true) (by rw [upsP_none]; simp) (fun n hn ih => ?_) n hn
  rw [M.upsP_step hn, List.mem_cons]
  rintro (rfl | h)
  · exact hn
  · exact ih h
theorem May.parN_or {n : Int} (hn : isN t n = true) : parN t n = -1 ∨ isN t (parN t n) = true := (M.par hn).imp id And.left
/-- Whoever is on the way up does not lie deeper. -/
theorem May.upsP_dep {n x : Int} (hn : n = -1 ∨ isN t n = true) (hx : x ∈ upsP t n) : x = n ∨ dep t x < dep t n := by
  revert hx
  refine M.par_ind (P := fun n => x ∈ upsP t n → x = n ∨ dep t x < dep t n) (by rw [upsP_none]; simp) (fun n hn ih => ?_) n hn
  rw [M.upsP_step hn, List.mem_cons]
  rintro (h | h)
  · exact .inl h
  · refine .inr ?_
    have h3 : (nd t n).kind ≠ 3 := fun h3 => by rw [M.par_3 hn h3, upsP_none] at h; simp at h
    have hd := M.dep_step hn
    rw [M.par_up hn h3] at hd
    rcases ih h with h1 | h1
    · rw [h1]; omega
    · omega
theorem May.upsP_depth {n x y : Int} (hn : n = -1 ∨ isN t n = true) (hx : x ∈ upsP t n) (hy : y ∈ upsP t n) (h : dep t x = dep t y) : x = y := by
  revert hx hy
  refine M.par_ind (P := fun n => x ∈ upsP t n → y ∈ upsP t n → x = y) (by rw [upsP_none]; simp) (fun n hn ih => ?_) n hn
  have key : ∀ z, z ∈ upsP t (parN t n) → dep t z < dep t n := fun z hz => by
    rcases M.upsP_dep (.inr hn) (by rw [M.upsP_step hn]; exact List.mem_cons_of_mem _ hz) with h1 | h1
    · subst h1
      have h3 : (nd t z).kind ≠ 3 := fun h3 => by rw [M.par_3 hn h3, upsP_none] at hz; simp at hz
      have hd := M.dep_step hn
      rw [M.par_up hn h3] at hd
      rcases M.upsP_dep (M.parN_or hn) hz with h2 | h2
      · rw [← h2] at hd; omega
      · omega
    · exact h1
  rw [M.upsP_step hn, List.mem_cons, List.mem_cons]
  rintro (h1 | h1) (h2 | h2)
  · rw [h1, h2]
  · subst h1; have := key y h2; omega
  · subst h2; have := key x h1; omega
  · exact ih h1 h2
theorem May.upsP_trans {a b c : Int} (hc : c = -1 ∨ isN t c = true) (h1 : a ∈ upsP t b) (h2 : b ∈ upsP t c) : a ∈ upsP t c := by
  revert h2
  refine M.par_ind (P := fun c => b ∈ upsP t c → a ∈ upsP t c) (by rw [upsP_none]; simp) (fun n hn ih => ?_) c hc
  rw [M.upsP_step hn, List.mem_cons]
  rintro (rfl | h)
  · rw [← M.upsP_step hn]; exact h1
  · exact List.mem_cons_of_mem _ (ih h)
theorem May.upsP_self {n : Int} (hn : isN t n = true) : n ∈ upsP t n := by rw [M.upsP_step hn]; exact List.mem_cons_self
/-- A way down: who is in a node's list. -/
theorem May.mem_listIn {y : Int} : ∀ (f : Nat) (n : Int), isN t n = true → t.length < dep t n + f → (y ∈ listIn t f n ↔ isN t y = true ∧ n ∈ upsP t y)
  | 0, n, hn, hf => by have := M.dep_le hn; omega
  | f + 1, n, hn, hf => by
    rw [listIn, List.mem_cons, List.mem_flatMap]
    constructor
    · rintro (rfl | ⟨k, hk, hy⟩)
      · exact ⟨hn, M.upsP_self hn⟩
      · obtain ⟨h1, h2, h3⟩ := M.dep_kid hn hk
        obtain ⟨h4, h5⟩ := (May.mem_listIn f k h1 (by omega)).1 hy
        refine ⟨h4, M.upsP_trans (.inr h4) ?_ h5⟩
        rw [M.upsP_step h1, (M.kid hn hk).2.2.1]
        exact List.mem_cons_of_mem _ (M.upsP_self hn)
    · rintro ⟨h1, h2⟩
      by_cases hyn : y = n
      · exact .inl hyn
      · refine .inr ?_
        have key : ∀ z, (z = -1 ∨ isN t z = true) → n ∈ upsP t z → z = n ∨ ∃ k ∈ (nd t n).kids, k ∈ upsP t z := by
          refine M.par_ind (by rw [upsP_none]; simp) (fun z hz ih hm => ?_)
          rw [M.upsP_step hz, List.mem_cons] at hm
          rcases hm with rfl | hm
          · exact .inl rfl
          · refine .inr ?_
            rcases ih hm with h | ⟨k, hk, hkz⟩
            · refine ⟨z, ?_, M.upsP_self hz⟩
              have hne : parN t z ≠ -1 := by rw [h]; exact M.ne1 hn
              have := (M.par_mem hz hne).2
              rwa [h] at this
            · exact ⟨k, hk, by rw [M.upsP_step hz]; exact List.mem_cons_of_mem _ hkz⟩
        rcases key y (.inr h1) h2 with h | ⟨k, hk, hkz⟩
        · exact absurd h hyn
        · obtain ⟨h3, h4, h5⟩ := M.dep_kid hn hk
          exact ⟨k, hk, (May.mem_listIn f k h3 (by omega)).2 ⟨h1, hkz⟩⟩
theorem May.mem_listT {n y : Int} (hn : isN t n = true) : y ∈ listT t n ↔ isN t y = true ∧ n ∈ upsP t y := M.mem_listIn _ n hn (by omega)
theorem May.kids_nodup {n : Int} (hn : isN t n = true) : (nd t n).kids.Nodup := by
  rw [List.nodup_iff_count]
  intro y
  by_cases hy : y ∈ (nd t n).kids
  · have := (M.kid hn hy).2.1; omega
  · rw [List.count_eq_zero_of_not_mem hy]; omega
theorem May.nodup_listIn : ∀ (f : Nat) (n : Int), isN t n = true → t.length < dep t n + f → (listIn t f n).Nodup
  | 0, n, hn, hf => by have := M.dep_le hn; omega
  | f + 1, n, hn, hf => by
    rw [listIn, List.nodup_cons, List.mem_flatMap]
    refine ⟨?_, ?_⟩
    · rintro ⟨k, hk, hy⟩
      obtain ⟨h1, h2, h3⟩ := M.dep_kid hn hk
      have h4 := ((M.mem_listIn f k h1 (by omega)).1 hy).2
      rcases M.upsP_dep (.inr hn) h4 with h5 | h5
      · subst h5; omega
      · omega
    · rw [List.nodup_iff_pairwise_ne, List.pairwise_flatMap]
      refine ⟨fun k hk => ?_, ?_⟩
      · obtain ⟨h1, h2, h3⟩ := M.dep_kid hn hk
        exact May.nodup_listIn f k h1 (by omega)
      · refine List.Pairwise.imp_of_mem (fun {a b} ha hb hab x hx y hy hxy => ?_) (M.kids_nodup hn)
        subst hxy
        obtain ⟨h1, h2, h3⟩ := M.dep_kid hn ha
        obtain ⟨g1, g2, g3⟩ := M.dep_kid hn hb
        obtain ⟨e1, e2⟩ := (M.mem_listIn f a h1 (by omega)).1 hx
        obtain ⟨_, e3⟩ := (M.mem_listIn f b g1 (by omega)).1 hy
        exact hab (M.upsP_depth (.inr e1) e2 e3 (by omega))
theorem May.nodup_listT {n : Int} (hn : isN t n = true) : (listT t n).Nodup := M.nodup_listIn _ n hn (by omega)
theorem May.listT_le {n : Int} (hn : isN t n = true) : (listT t n).length ≤ t.length := nodup_isN (M.nodup_listT hn) fun x hx => ((M.mem_listT hn).1 hx).1
end
end Go.Proofs.Lime
namespace Go.Proofs.Lime
open Go.RowKit
set_option linter.unusedVariables false
set_option linter.unusedSimpArgs false
set_option linter.unusedSectionVars false

theorem May.topT_step {t : List Nd} (M : May t) {n : Int} (hn : isN t n = true) : topT t n = if parN t n = -1 then n else topT t (parN t n) := by
  unfold topT
  rw [M.upsP_step hn]
  split
  · rename_i h
    rw [h, upsP_none]; rfl
  · rename_i h
    have h1 := (M.parN_or hn).resolve_left h
    rw [M.upsP_step h1]
    rfl
theorem May.topT_isN {t : List Nd} (M : May t) {n : Int} (hn : isN t n = true) : isN t (topT t n) = true := by
  have h1 := M.upsP_step hn
  refine M.upsP_isN (.inr hn) ?_
  rw [topT, List.getLastD_eq_getLast?, List.getLast?_eq_some_getLast (by rw [h1]; simp)]
  exact List.getLast_mem _
/-- The host of a node's top; -1: none. -/
def hostT (t : List Nd) (n : Int) : Int := (nd t (topT t n)).host
def hostR (t : List Nd) (n : Int) : Int := if mayT t = true ∧ isN t n = true then hostT t n else -1
def upsS (t : List Nd) (n : Int) : List Int := if mayT t = true ∧ isN t n = true then upsT t n else []
section
variable {t : List Nd} (M : May t) {n : Int} (hn : isN t n = true)
include M hn
theorem May.host_par (h : parN t n ≠ -1) : hostT t n = hostT t (parN t n) := by
  unfold hostT; rw [M.topT_step hn, if_neg h]
theorem May.host_top (h : parN t n = -1) : hostT t n = (nd t n).host := by
  unfold hostT; rw [M.topT_step hn, if_pos h]
theorem May.host_or : hostT t n = -1 ∨ isN t (hostT t n) = true := by
  have ht := M.topT_isN hn
  unfold hostT
  by_cases h : (nd t (topT t n)).kind = 3
  · exact .inr (M.sh3 ht h).2.2.1
  · exact .inl (M.shn ht h).1
theorem May.ups_split : upsT t n = upsP t n ++ upsT t (hostT t n) := by
  refine M.par_ind (P := fun n => isN t n = true → upsT t n = upsP t n ++ upsT t (hostT t n)) (fun h => absurd rfl (M.ne1 h)) (fun n hn ih _ => ?_) n (.inr hn) hn
  rw [M.ups_step hn, M.upsP_step hn]
  by_cases hp : parN t n = -1
  · rw [M.host_top hn hp, hp, upsP_none]
    show n :: upsT t (upN t n) = n :: upsT t (nd t n).host
    congr 2
    rw [upN]
    split
    · rfl
    · rename_i h3
      rw [(M.shn hn h3).1]; exact hp
  · have h3 : (nd t n).kind ≠ 3 := fun h => hp (M.par_3 hn h)
    rw [M.par_up hn h3, M.host_par hn hp, List.cons_append, ← ih ((M.parN_or hn).resolve_left hp)]
theorem May.dep_host (h : hostT t n ≠ -1) : dep t (hostT t n) < dep t n := by
  have h1 := M.ups_split hn
  have h2 := congrArg List.length h1
  rw [List.length_append, M.upsP_step hn] at h2
  simp only [List.length_cons] at h2
  unfold dep; omega
end
/-- What is told of a to somebody above whom just 'holds' are. -/
def retIn (t : List Nd) (holds : List Int) : Nat → Int → Int
  | 0, a => a
  | f + 1, a => if hostT t a ≠ -1 ∧ (nd t (hostT t a)).root ∉ holds then retIn t holds f (hostT t a) else a
def retT (t : List Nd) (a b : Int) : Int := retIn t (upsT t b) (t.length + 1) a
def retR (t : List Nd) (a b : Int) : Int := if (mayT t && (isN t a && isN t b)) = true then retT t a b else -1
theorem May.retIn_more {t : List Nd} (M : May t) (holds : List Int) : ∀ (f : Nat) (a : Int), isN t a = true → dep t a ≤ f → ∀ g, f ≤ g → retIn t holds g a = retIn t holds f a
  | 0, a, ha, hf, g, hg => by rw [M.dep_step ha] at hf; omega
  | f + 1, a, ha, hf, 0, hg => by omega
  | f + 1, a, ha, hf, g + 1, hg => by
    rw [retIn, retIn]
    split
    · rename_i h
      have := M.dep_host ha h.1
      exact May.retIn_more M holds f _ ((M.host_or ha).resolve_left h.1) (by omega) g (by omega)
    · rfl
theorem May.retT_step {t : List Nd} (M : May t) {a : Int} (ha : isN t a = true) (holds : List Int) : retIn t holds (t.length + 1) a = if hostT t a ≠ -1 ∧ (nd t (hostT t a)).root ∉ holds then retIn t holds (t.length + 1) (hostT t a) else a := by
  rw [retIn]
  split
  · rename_i h
    have h1 := M.dep_host ha h.1
    have h2 := M.dep_le ha
    exact (M.retIn_more holds _ _ ((M.host_or ha).resolve_left h.1) (by omega) _ (by omega)).symm
  · rfl
end Go.Proofs.Lime
namespace Go.Proofs.Lime
open Go.RowKit
set_option linter.unusedVariables false
set_option linter.unusedSimpArgs false
set_option linter.unusedSectionVars false

/-- ok: the nodes; s: one step up (-1: nobody); ch: those one step below; d: how deep, at most B. -/
structure Forest (ok : Int → Prop) (s : Int → Int) (ch : Int → List Int) (d : Int → Nat) (B : Nat) : Prop where mk ::
  neg : ¬ ok (-1)
  up : ∀ n, ok n → s n = -1 ∨ ok (s n)
  pos : ∀ n, ok n → 1 ≤ d n
  dep : ∀ n, ok n → s n ≠ -1 → d n = d (s n) + 1
  bound : ∀ n, ok n → d n ≤ B
  chi : ∀ n y, ok n → (y ∈ ch n ↔ ok y ∧ s y = n)
  nodup : ∀ n, ok n → (ch n).Nodup
/-- A node and all below it, at most f deep. -/
def preIn (ch : Int → List Int) : Nat → Int → List Int
  | 0, _ => []
  | f + 1, n => n :: (ch n).flatMap (preIn ch f)
section
variable {ok : Int → Prop} {s : Int → Int} {ch : Int → List Int} {d : Int → Nat} {B : Nat} (F : Forest ok s ch d B)
include F
theorem Forest.ne1 {n : Int} (hn : ok n) : n ≠ -1 := by rintro rfl; exact F.neg hn
theorem Forest.ind {P : Int → Prop} (h0 : P (-1)) (h : ∀ n, ok n → P (s n) → P n) : ∀ n, (n = -1 ∨ ok n) → P n := by
  have key : ∀ k n, (n = -1 ∨ ok n) → (n ≠ -1 → d n ≤ k) → P n := by
    intro k
    induction k with
    | zero =>
      rintro n (rfl | hn) hd
      · exact h0
      · have := F.pos n hn; have := hd (F.ne1 hn); omega
    | succ k ih =>
      rintro n (rfl | hn) hd
      · exact h0
      · refine h n hn (ih _ (F.up n hn) (fun hs => ?_))
        have := F.dep n hn hs; have := hd (F.ne1 hn); omega
  exact fun n hn => key (d n) n hn (fun _ => Nat.le_refl _)
theorem Forest.len : ∀ (f : Nat) (n : Int), (n = -1 ∨ ok n) → n = -1 ∨ (chainIn s f n).length ≤ d n
  | 0, n, hn => hn.imp id (fun _ => by simp [chainIn])
  | f + 1, n, hn => by
    rcases hn with h | hn
    · exact .inl h
    · refine .inr ?_
      rw [chain_step (F.ne1 hn)]
      by_cases hs : s n = -1
      · rw [hs, chain_nil]; exact F.pos n hn
      · have := (Forest.len f (s n) (F.up n hn)).resolve_left hs
        have := F.dep n hn hs
        simp; omega
theorem Forest.up_le {n : Int} (hn : ok n) : (chainIn s (B + 1) n).length ≤ d n := (F.len (B + 1) n (.inr hn)).resolve_left (F.ne1 hn)
theorem Forest.up_step {n : Int} (hn : ok n) : chainIn s (B + 1) n = n :: chainIn s (B + 1) (s n) := by
  have h1 := F.up_le hn
  have h2 := F.bound n hn
  rw [chain_step (F.ne1 hn)] at h1 ⊢
  congr 1
  symm
  apply chain_more _ _ (by omega)
  simp at h1
  omega
theorem Forest.self {n : Int} (hn : ok n) : n ∈ chainIn s (B + 1) n := by rw [F.up_step hn]; exact List.mem_cons_self
theorem Forest.up_ok {n x : Int} (hn : n = -1 ∨ ok n) (hx : x ∈ chainIn s (B + 1) n) : ok x := by
  revert hx
  refine F.ind (P := fun n => x ∈ chainIn s (B + 1) n → ok x) (by rw [chain_nil]; simp) (fun n hn ih => ?_) n hn
  rw [F.up_step hn, List.mem_cons]
  rintro (rfl | h)
  · exact hn
  · exact ih h
theorem Forest.up_dep {n x : Int} (hn : n = -1 ∨ ok n) (hx : x ∈ chainIn s (B + 1) n) : x = n ∨ d x < d n := by
  revert hx
  refine F.ind (P := fun n => x ∈ chainIn s (B + 1) n → x = n ∨ d x < d n) (by rw [chain_nil]; simp) (fun n hn ih => ?_) n hn
  rw [F.up_step hn, List.mem_cons]
  rintro (h | h)
  · exact .inl h
  · refine .inr ?_
    have hs : s n ≠ -1 := fun e => by rw [e, chain_nil] at h; simp at h
    have hd := F.dep n hn hs
    rcases ih h with h1 | h1
    · rw [h1]; omega
    · omega
theorem Forest.above_dep {n x : Int} (hn : ok n) (hx : x ∈ chainIn s (B + 1) (s n)) : d x < d n := by
  have hs : s n ≠ -1 := fun e => by rw [e, chain_nil] at hx; simp at hx
  have hd := F.dep n hn hs
  rcases F.up_dep (F.up n hn) hx with h1 | h1
  · rw [h1]; omega
  · omega
theorem Forest.up_depth {n x y : Int} (hn : n = -1 ∨ ok n) (hx : x ∈ chainIn s (B + 1) n) (hy : y ∈ chainIn s (B + 1) n) (h : d x = d y) : x = y := by
  revert hx hy
  refine F.ind (P := fun n => x ∈ chainIn s (B + 1) n → y ∈ chainIn s (B + 1) n → x = y) (by rw [chain_nil]; simp) (fun n hn ih => ?_) n hn
  rw [F.up_step hn, List.mem_cons, List.mem_cons]
  rintro (h1 | h1) (h2 | h2)
  · rw [h1, h2]
  · subst h1; have := F.above_dep hn h2; omega
  · subst h2; have := F.above_dep hn h1; omega
  · exact ih h1 h2
theorem Forest.up_trans {a b c : Int} (hc : c = -1 ∨ ok c) (h1 : a ∈ chainIn s (B + 1) b) (h2 : b ∈ chainIn s (B + 1) c) : a ∈ chainIn s (B + 1) c := by
  revert h2
  refine F.ind (P := fun c => b ∈ chainIn s (B + 1) c → a ∈ chainIn s (B + 1) c) (by rw [chain_nil]; simp) (fun n hn ih => ?_) c hc
  rw [F.up_step hn, List.mem_cons]
  rintro (rfl | h)
  · rw [← F.up_step hn]; exact h1
  · exact List.mem_cons_of_mem _ (ih h)
/-- Two that are above one node: one is above the other. -/
theorem Forest.up_two {a b c : Int} (hc : c = -1 ∨ ok c) (h1 : a ∈ chainIn s (B + 1) c) (h2 : b ∈ chainIn s (B + 1) c) : a ∈ chainIn s (B + 1) b ∨ b ∈ chainIn s (B + 1) a := by
  revert h1 h2
  refine F.ind (P := fun c => a ∈ chainIn s (B + 1) c → b ∈ chainIn s (B + 1) c → a ∈ chainIn s (B + 1) b ∨ b ∈ chainIn s (B + 1) a) (by rw [chain_nil]; simp) (fun n hn ih => ?_) c hc
  intro h1 h2
  have e := F.up_step hn
  have h1' := h1
  have h2' := h2
  rw [e, List.mem_cons] at h1 h2
  rcases h1 with h1 | h1
  · subst h1; exact .inr h2'
  · rcases h2 with h2 | h2
    · subst h2; exact .inl h1'
    · exact ih h1 h2
theorem Forest.up_anti {a b : Int} (hb : ok b) (h1 : a ∈ chainIn s (B + 1) b) (h2 : b ∈ chainIn s (B + 1) a) : a = b := by
  rcases F.up_dep (.inr hb) h1 with h | h
  · exact h
  · rcases F.up_dep (.inr (F.up_ok (.inr hb) h1)) h2 with h' | h'
    · exact h'.symm
    · omega
theorem Forest.kid {n y : Int} (hn : ok n) (hy : y ∈ ch n) : ok y ∧ s y = n ∧ d y = d n + 1 := by
  obtain ⟨h1, h2⟩ := (F.chi n y hn).1 hy
  exact ⟨h1, h2, by rw [F.dep y h1 (by rw [h2]; exact F.ne1 hn), h2]⟩
theorem Forest.mem_preIn {y : Int} : ∀ (f : Nat) (n : Int), ok n → B < d n + f → (y ∈ preIn ch f n ↔ ok y ∧ n ∈ chainIn s (B + 1) y)
  | 0, n, hn, hf => by have := F.bound n hn; omega
  | f + 1, n, hn, hf => by
    rw [preIn, List.mem_cons, List.mem_flatMap]
    constructor
    · rintro (rfl | ⟨k, hk, hy⟩)
      · exact ⟨hn, F.self hn⟩
      · obtain ⟨h1, h2, h3⟩ := F.kid hn hk
        obtain ⟨h4, h5⟩ := (Forest.mem_preIn f k h1 (by omega)).1 hy
        refine ⟨h4, F.up_trans (.inr h4) ?_ h5⟩
        rw [F.up_step h1, h2]
        exact List.mem_cons_of_mem _ (F.self hn)
    · rintro ⟨h1, h2⟩
      by_cases hyn : y = n
      · exact .inl hyn
      · refine .inr ?_
        have key : ∀ z, (z = -1 ∨ ok z) → n ∈ chainIn s (B + 1) z → z = n ∨ ∃ k ∈ ch n, k ∈ chainIn s (B + 1) z := by
          refine F.ind (by rw [chain_nil]; simp) (fun z hz ih hm => ?_)
          rw [F.up_step hz, List.mem_cons] at hm
          rcases hm with rfl | hm
          · exact .inl rfl
          · refine .inr ?_
            rcases ih hm with h | ⟨k, hk, hkz⟩
            · exact ⟨z, (F.chi n z hn).2 ⟨hz, h⟩, F.self hz⟩
            · exact ⟨k, hk, by rw [F.up_step hz]; exact List.mem_cons_of_mem _ hkz⟩
        rcases key y (.inr h1) h2 with h | ⟨k, hk, hkz⟩
        · exact absurd h hyn
        · obtain ⟨h3, h4, h5⟩ := F.kid hn hk
          exact ⟨k, hk, (Forest.mem_preIn f k h3 (by omega)).2 ⟨h1, hkz⟩⟩
theorem Forest.nodup_preIn : ∀ (f : Nat) (n : Int), ok n → B < d n + f → (preIn ch f n).Nodup
  | 0, n, hn, hf => by have := F.bound n hn; omega
  | f + 1, n, hn, hf => by
    rw [preIn, List.nodup_cons, List.mem_flatMap]
    refine ⟨?_, ?_⟩
    · rintro ⟨k, hk, hy⟩
      obtain ⟨h1, h2, h3⟩ := F.kid hn hk
      have h4 := ((F.mem_preIn f k h1 (by omega)).1 hy).2
      rcases F.up_dep (.inr hn) h4 with h5 | h5
      · subst h5; omega
      · omega
    · rw [List.nodup_iff_pairwise_ne, List.pairwise_flatMap]
      refine ⟨fun k hk => ?_, ?_⟩
      · obtain ⟨h1, h2, h3⟩ := F.kid hn hk
        exact Forest.nodup_preIn f k h1 (by omega)
      · refine List.Pairwise.imp_of_mem (fun {a b} ha hb hab x hx y hy hxy => ?_) (F.nodup n hn)
        subst hxy
        obtain ⟨h1, h2, h3⟩ := F.kid hn ha
        obtain ⟨g1, g2, g3⟩ := F.kid hn hb
        obtain ⟨e1, e2⟩ := (F.mem_preIn f a h1 (by omega)).1 hx
        obtain ⟨_, e3⟩ := (F.mem_preIn f b g1 (by omega)).1 hy
        exact hab (F.up_depth (.inr e1) e2 e3 (by omega))
theorem Forest.preIn_more : ∀ (f : Nat) (n : Int), ok n → B < d n + f → ∀ g, f ≤ g → preIn ch g n = preIn ch f n
  | 0, n, hn, hf, g, hg => by have := F.bound n hn; omega
  | f + 1, n, hn, hf, 0, hg => by omega
  | f + 1, n, hn, hf, g + 1, hg => by
    rw [preIn, preIn]
    congr 1
    apply flatMap_eq
    intro y hy
    obtain ⟨h1, h2, h3⟩ := F.kid hn hy
    exact Forest.preIn_more f y h1 (by omega) g (by omega)
theorem Forest.pre_step {n : Int} (hn : ok n) : preIn ch (B + 1) n = n :: (ch n).flatMap (preIn ch (B + 1)) := by
  have hd := F.pos n hn
  rw [preIn]
  congr 1
  apply flatMap_eq
  intro y hy
  obtain ⟨h1, h2, h3⟩ := F.kid hn hy
  exact (F.preIn_more _ y h1 (by omega) _ (by omega)).symm
theorem Forest.mem_pre {n y : Int} (hn : ok n) : y ∈ preIn ch (B + 1) n ↔ ok y ∧ n ∈ chainIn s (B + 1) y := F.mem_preIn _ n hn (by omega)
theorem Forest.nodup_pre {n : Int} (hn : ok n) : (preIn ch (B + 1) n).Nodup := F.nodup_preIn _ n hn (by omega)
end

/-- Those one step below a node, its shadow first. -/
def chS (t : List Nd) (n : Int) : List Int := (if (nd t n).root = -1 then [] else [(nd t n).root]) ++ (nd t n).kids
theorem May.shade {t : List Nd} (M : May t) : Forest (fun n => isN t n = true) (upN t) (chS t) (dep t) t.length where
  neg := fun h => M.ne1 h rfl
  up := fun n hn => M.up hn
  pos := fun n hn => by rw [M.dep_step hn]; omega
  dep := fun n hn _ => M.dep_step hn
  bound := fun n hn => M.dep_le hn
  chi := fun n y hn => by
    unfold chS
    rw [List.mem_append]
    constructor
    · rintro (h | h)
      · split at h
        · simp at h
        · rename_i hr
          obtain rfl := List.mem_singleton.1 h
          obtain ⟨h1, h2, _⟩ := M.dep_root hn rfl hr
          exact ⟨h1, h2⟩
      · obtain ⟨h1, h2, _⟩ := M.dep_kid hn h
        exact ⟨h1, h2⟩
    · rintro ⟨hy, hu⟩
      rw [upN] at hu
      split at hu
      · rename_i h3
        obtain ⟨_, _, _, _, h4⟩ := M.sh3 hy h3
        rw [hu] at h4
        refine .inl ?_
        rw [if_neg (by rw [h4]; exact M.ne1 hy), h4]
        simp
      · have hp : parN t y = n := hu
        refine .inr ?_
        have := (M.par_mem hy (by rw [hp]; exact M.ne1 hn)).2
        rwa [hp] at this
  nodup := fun n hn => by
    unfold chS
    split
    · simpa using M.kids_nodup hn
    · rename_i hr
      rw [List.singleton_append, List.nodup_cons]
      refine ⟨fun h => ?_, M.kids_nodup hn⟩
      obtain ⟨_, _, h3, _⟩ := M.root hn rfl hr
      rcases (M.kid hn h).2.2.2 with h4 | h4 <;> omega
def listS (t : List Nd) (n : Int) : List Int := preIn (chS t) (t.length + 1) n
end Go.Proofs.Lime
namespace Go.Proofs.Lime
open Go.RowKit
set_option linter.unusedVariables false
set_option linter.unusedSimpArgs false
set_option linter.unusedSectionVars false

section
variable {t : List Nd} (M : May t)
include M
theorem May.topT_mem {n : Int} (hn : isN t n = true) : topT t n ∈ upsP t n := by
  have h1 := M.upsP_step hn
  rw [topT, List.getLastD_eq_getLast?, List.getLast?_eq_some_getLast (by rw [h1]; simp)]
  exact List.getLast_mem _
theorem May.topT_above {n : Int} (hn : isN t n = true) : topT t n ∈ upsT t n := by
  rw [M.ups_split hn]; exact List.mem_append_left _ (M.topT_mem hn)
theorem May.hostT_above {n : Int} (hn : isN t n = true) (h : hostT t n ≠ -1) : hostT t n ∈ upsT t n := by
  rw [M.ups_split hn]
  exact List.mem_append_right _ (M.shade.self ((M.host_or hn).resolve_left h))
theorem May.hostT_root {n : Int} (hn : isN t n = true) (h : hostT t n ≠ -1) : (nd t (hostT t n)).root = topT t n := by
  have ht := M.topT_isN hn
  unfold hostT at h ⊢
  by_cases h3 : (nd t (topT t n)).kind = 3
  · exact (M.sh3 ht h3).2.2.2.2
  · exact absurd (M.shn ht h3).1 h
theorem May.par_0 : isN t 0 = true ∧ upN t 0 = -1 := by
  have h0 : isN t 0 = true := by have := M.len1; rw [isN_iff]; omega
  have hk := M.kinds h0
  have h3 : (nd t 0).kind ≠ 3 := by have := hk.2.2.2 rfl; omega
  refine ⟨h0, ?_⟩
  rw [M.par_up h0 h3]
  by_cases hp : parN t 0 = -1
  · exact hp
  · obtain ⟨h1, h2⟩ := M.par_mem h0 hp
    have := hk.2.2.2 rfl
    rcases (M.kid h1 h2).2.2.2 with h | h <;> omega
theorem May.ups_0 : upsT t 0 = [0] := by
  obtain ⟨h0, hu⟩ := M.par_0
  rw [M.ups_step h0, hu, upsT_none]
/-- Induction along hosts. -/
theorem May.host_ind {P : Int → Prop} (h : ∀ a, isN t a = true → (hostT t a ≠ -1 → P (hostT t a)) → P a) : ∀ a, isN t a = true → P a := by
  have key : ∀ d a, isN t a = true → dep t a ≤ d → P a := by
    intro d
    induction d with
    | zero => intro a ha hd; rw [M.dep_step ha] at hd; omega
    | succ d ih =>
      intro a ha hd
      refine h a ha fun hh => ih _ ((M.host_or ha).resolve_left hh) ?_
      have := M.dep_host ha hh; omega
  exact fun a ha => key _ a ha (Nat.le_refl _)
theorem May.ret_isN (holds : List Int) : ∀ a, isN t a = true → isN t (retIn t holds (t.length + 1) a) = true := by
  refine M.host_ind fun a ha ih => ?_
  rw [M.retT_step ha]
  split
  · rename_i h; exact ih h.1
  · exact ha
theorem May.ret_above (holds : List Int) : ∀ a, isN t a = true → retIn t holds (t.length + 1) a ∈ upsT t a := by
  refine M.host_ind fun a ha ih => ?_
  rw [M.retT_step ha]
  split
  · rename_i h
    exact M.shade.up_trans (.inr ha) (ih h.1) (M.hostT_above ha h.1)
  · exact M.shade.self ha
theorem May.ret_stop (holds : List Int) : ∀ a, isN t a = true → ¬ (hostT t (retIn t holds (t.length + 1) a) ≠ -1 ∧ (nd t (hostT t (retIn t holds (t.length + 1) a))).root ∉ holds) := by
  refine M.host_ind fun a ha ih => ?_
  rw [M.retT_step ha]
  split
  · rename_i h; exact ih h.1
  · rename_i h; exact h
theorem May.ret_idem (holds : List Int) (a : Int) (ha : isN t a = true) : retIn t holds (t.length + 1) (retIn t holds (t.length + 1) a) = retIn t holds (t.length + 1) a := by
  rw [M.retT_step (M.ret_isN holds a ha), if_neg (M.ret_stop holds a ha)]
theorem May.ret_root (holds : List Int) : ∀ a, isN t a = true → retIn t holds (t.length + 1) a = a ∨ (nd t (retIn t holds (t.length + 1) a)).root ≠ -1 := by
  refine M.host_ind fun a ha ih => ?_
  rw [M.retT_step ha]
  split
  · rename_i h
    refine .inr ?_
    rcases ih h.1 with h1 | h1
    · rw [h1, M.hostT_root ha h.1]; exact M.ne1 (M.topT_isN ha)
    · exact h1
  · exact .inl rfl
theorem May.ret_self {a : Int} (ha : isN t a = true) : retT t a a = a := by
  unfold retT
  rw [M.retT_step ha, if_neg]
  rintro ⟨h1, h2⟩
  rw [M.hostT_root ha h1] at h2
  exact h2 (M.topT_above ha)
theorem May.ret_ret {h1 h2 : List Int} (hs : ∀ x, x ∈ h2 → x ∈ h1) : ∀ a, isN t a = true → retIn t h2 (t.length + 1) (retIn t h1 (t.length + 1) a) = retIn t h2 (t.length + 1) a := by
  refine M.host_ind fun a ha ih => ?_
  by_cases h : hostT t a ≠ -1 ∧ (nd t (hostT t a)).root ∉ h1
  · rw [M.retT_step ha h1, if_pos h, ih h.1, M.retT_step ha h2, if_pos ⟨h.1, fun hm => h.2 (hs _ hm)⟩]
  · rw [M.retT_step ha h1, if_neg h]
end
end Go.Proofs.Lime
