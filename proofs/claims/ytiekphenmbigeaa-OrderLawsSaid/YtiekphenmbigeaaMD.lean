/- Trees that may be, in plain words: steps up, ways up, and how deep a node lies. Tree order in plain words: ways up by parents, tops, lists. Tree order in plain words: lists have each node once; who is in them. Walks: tree order: the iterators. Walks: tree order: lists, ways up, tops. Walk: tree order: who stands ahead of whom. -/
import Derived.Test.YtiekphenmbigeaaMA
import Derived.Test.YtiekphenmbigeaaMC
namespace Go.Proofs.Lime
open Go.RowKit
set_option linter.unusedVariables false
set_option linter.unusedSimpArgs false
set_option linter.unusedSectionVars false

theorem chain_more {s : Int → Int} : ∀ {f : Nat} {n : Int}, (chainIn s f n).length < f → ∀ g, f ≤ g → chainIn s g n = chainIn s f n
  | 0, _, h, _, _ => by simp at h
  | f + 1, n, h, 0, hg => by omega
  | f + 1, n, h, g + 1, hg => by
    rw [chainIn] at h ⊢
    rw [chainIn]
    split
    · rfl
    · rename_i hn
      rw [if_neg hn] at h
      rw [chain_more (f := f) (by simpa using h) g (by omega)]
theorem chain_mem {s : Int → Int} : ∀ {f : Nat} {n x : Int}, x ∈ chainIn s f n → x ≠ -1
  | 0, _, _, h => by simp [chainIn] at h
  | f + 1, n, x, h => by
    rw [chainIn] at h
    split at h
    · simp at h
    · rcases List.mem_cons.1 h with rfl | h
      · assumption
      · exact chain_mem h

structure May (t : List Nd) : Prop where mk ::
  len1 : 1 ≤ t.length
  len2 : t.length ≤ 64
  node : ∀ k : Nat, k < t.length → nodeOk t k = true
  ends : ∀ k : Nat, k < t.length → endsIn t (t.length + 1) k = true
theorem May.of {t : List Nd} (h : mayT t = true) : May t := by
  simp only [mayT, Bool.and_eq_true, decide_eq_true_eq, allTo_iff] at h
  exact ⟨h.1.1, h.1.2, h.2.1, h.2.2⟩
theorem May.iff {t : List Nd} : mayT t = true ↔ May t := by
  refine ⟨May.of, fun h => ?_⟩
  simp only [mayT, Bool.and_eq_true, decide_eq_true_eq, allTo_iff]
  exact ⟨⟨h.len1, h.len2⟩, h.node, h.ends⟩
def parN (t : List Nd) (n : Int) : Int := (nd t n).parent
section
variable {t : List Nd} (M : May t) {n : Int} (hn : isN t n = true)
include M hn
theorem May.parts : kindOk (nd t n) n = true ∧ attrsOk (nd t n) = true ∧ kidsOk t n = true ∧ shadowOk t n = true := by
  obtain ⟨k, rfl, hk⟩ := isN_nat hn
  have := M.node k hk
  simpa only [nodeOk, Bool.and_eq_true] using this
theorem May.kid {y : Int} (hy : y ∈ (nd t n).kids) : isN t y = true ∧ (nd t n).kids.count y = 1 ∧ parN t y = n ∧ ((nd t y).kind = 1 ∨ (nd t y).kind = 2) := by
  have h := (M.parts hn).2.2.1
  simp only [kidsOk, Bool.and_eq_true] at h
  have h1 := List.all_eq_true.1 h.1 y hy
  simpa only [kidOk, Bool.and_eq_true, Bool.or_eq_true, decide_eq_true_eq, parN] using h1
theorem May.par : parN t n = -1 ∨ (isN t (parN t n) = true ∧ (nd t (parN t n)).kids.count n = 1) := by
  have h := (M.parts hn).2.2.1
  simp only [kidsOk, Bool.and_eq_true, Bool.or_eq_true, decide_eq_true_eq] at h
  exact h.2.2
theorem May.par_mem (h : parN t n ≠ -1) : isN t (parN t n) = true ∧ n ∈ (nd t (parN t n)).kids := by
  obtain ⟨h1, h2⟩ := (M.par hn).resolve_left h
  exact ⟨h1, List.count_pos_iff.1 (by omega)⟩
theorem May.kinds : 0 ≤ (nd t n).kind ∧ (nd t n).kind ≤ 3 ∧ ((nd t n).kind = 0 ↔ n = 0) := by
  have h := (M.parts hn).1
  simp only [kindOk, Bool.and_eq_true, decide_eq_true_eq, beq_iff_eq, decide_eq_decide] at h
  exact ⟨h.2.1, h.2.2.1, h.1⟩
theorem May.sh3 (h : (nd t n).kind = 3) : (nd t n).root = -1 ∧ parN t n = -1 ∧ isN t (nd t n).host = true ∧ (nd t (nd t n).host).kind = 1 ∧ (nd t (nd t n).host).root = n := by
  have h1 := (M.parts hn).2.2.2
  rw [shadowOk, if_pos h] at h1
  simpa only [Bool.and_eq_true, decide_eq_true_eq, parN] using h1
theorem May.shn (h : (nd t n).kind ≠ 3) : (nd t n).host = -1 ∧ ((nd t n).root = -1 ∨ ((nd t n).kind = 1 ∧ isN t (nd t n).root = true ∧ (nd t (nd t n).root).kind = 3 ∧ (nd t (nd t n).root).host = n)) := by
  have h1 := (M.parts hn).2.2.2
  rw [shadowOk, if_neg h] at h1
  simpa only [Bool.and_eq_true, Bool.or_eq_true, decide_eq_true_eq] using h1
theorem May.up : upN t n = -1 ∨ isN t (upN t n) = true := by
  have hp := M.par hn
  rw [upN]
  split
  · rename_i h; exact .inr (M.sh3 hn h).2.2.1
  · rcases hp with h | h
    · exact .inl h
    · exact .inr h.1
theorem May.root {r : Int} (hr : (nd t n).root = r) (h : r ≠ -1) : (nd t n).kind = 1 ∧ isN t r = true ∧ (nd t r).kind = 3 ∧ (nd t r).host = n := by
  subst hr
  by_cases h3 : (nd t n).kind = 3
  · exact absurd (M.sh3 hn h3).1 h
  · exact (M.shn hn h3).2.resolve_left h
theorem May.ne1 : n ≠ -1 := by rintro rfl; simp [isN] at hn
end

/-- The way up from n. -/
def upsT (t : List Nd) (n : Int) : List Int := chainIn (upN t) (t.length + 1) n
def dep (t : List Nd) (n : Int) : Nat := (upsT t n).length
section
variable {t : List Nd} (M : May t) {n : Int} (hn : isN t n = true)
include M hn
theorem May.dep_le : dep t n ≤ t.length := by
  obtain ⟨k, rfl, hk⟩ := isN_nat hn
  have := M.ends k hk
  rw [ends_chain] at this
  have := of_decide_eq_true this
  unfold dep upsT; omega
theorem May.ups_step : upsT t n = n :: upsT t (upN t n) := by
  have h1 := M.dep_le hn
  have hne := M.ne1 hn
  unfold dep at h1
  unfold upsT at *
  rw [chain_step hne] at h1 ⊢
  congr 1
  symm
  apply chain_more _ _ (by omega)
  simp at h1
  omega
theorem May.dep_step : dep t n = dep t (upN t n) + 1 := by
  rw [dep, M.ups_step hn]; rfl
end
theorem upsT_none (t : List Nd) : upsT t (-1) = [] := chain_nil _ _
section
variable {t : List Nd} (M : May t)
include M
theorem May.dep_kid {n y : Int} (hn : isN t n = true) (hy : y ∈ (nd t n).kids) : isN t y = true ∧ upN t y = n ∧ dep t y = dep t n + 1 := by
  obtain ⟨h1, _, h2, h3⟩ := M.kid hn hy
  have hu : upN t y = n := by rw [upN, if_neg (by omega)]; exact h2
  exact ⟨h1, hu, by rw [M.dep_step h1, hu]⟩
theorem May.dep_root {n r : Int} (hn : isN t n = true) (hr : (nd t n).root = r) (h : r ≠ -1) : isN t r = true ∧ upN t r = n ∧ dep t r = dep t n + 1 := by
  obtain ⟨_, h1, h2, h3⟩ := M.root hn hr h
  have hu : upN t r = n := by rw [upN, if_pos h2]; exact h3
  exact ⟨h1, hu, by rw [M.dep_step h1, hu]⟩
/-- Induction on steps up. -/
theorem May.up_ind {P : Int → Prop} (h0 : P (-1)) (h : ∀ n, isN t n = true → P (upN t n) → P n) : ∀ n, (n = -1 ∨ isN t n = true) → P n := by
  have key : ∀ d n, (n = -1 ∨ isN t n = true) → dep t n = d → P n := by
    intro d
    induction d with
    | zero =>
      rintro n (rfl | hn) hd
      · exact h0
      · rw [M.dep_step hn] at hd; omega
    | succ d ih =>
      rintro n (rfl | hn) hd
      · exact h0
      · exact h n hn (ih _ (M.up hn) (by rw [M.dep_step hn] at hd; omega))
  exact fun n hn => key _ n hn rfl
theorem May.ups_mem {n x : Int} (hn : n = -1 ∨ isN t n = true) (hx : x ∈ upsT t n) : isN t x = true := by
  revert hx
  refine M.up_ind (P := fun n => x ∈ upsT t n → isN t x = true) (by rw [upsT_none]; simp) (fun n hn ih => ?_) n hn
  rw [M.ups_step hn, List.mem_cons]
  rintro (rfl | h)
  · exact hn
  · exact ih h
end
end Go.Proofs.Lime
namespace Go.Proofs.Lime
open Go.RowKit
set_option linter.unusedVariables false
set_option linter.unusedSimpArgs false
set_option linter.unusedSectionVars false

def upsP (t : List Nd) (n : Int) : List Int := chainIn (parN t) (t.length + 1) n
/-- A node and all below it, at most f deep. -/
def listIn (t : List Nd) : Nat → Int → List Int
  | 0, _ => []
  | f + 1, n => n :: (nd t n).kids.flatMap (listIn t f)
def listT (t : List Nd) (n : Int) : List Int := listIn t (t.length + 1) n
def topT (t : List Nd) (n : Int) : Int := (upsP t n).getLastD (-1)
section
variable {t : List Nd} (M : May t) {n : Int} (hn : isN t n = true)
include M hn
theorem May.par_up (h : (nd t n).kind ≠ 3) : upN t n = parN t n := by rw [upN, if_neg h]; rfl
theorem May.par_3 (h : (nd t n).kind = 3) : parN t n = -1 := (M.sh3 hn h).2.1
end
theorem May.upsP_len {t : List Nd} (M : May t) : ∀ (f : Nat) (n : Int), (n = -1 ∨ isN t n = true) → (chainIn (parN t) f n).length ≤ (chainIn (upN t) f n).length
  | 0, _, _ => by simp [chainIn]
  | f + 1, n, hn => by
    rcases hn with rfl | hn
    · simp [chain_nil]
    · rw [chain_step (M.ne1 hn), chain_step (M.ne1 hn)]
      by_cases h3 : (nd t n).kind = 3
      · rw [M.par_3 hn h3, chain_nil]; simp
      · have := May.upsP_len M f (parN t n) ((M.par hn).imp id And.left)
        rw [M.par_up hn h3]
        simpa using this
theorem May.upsP_le {t : List Nd} (M : May t) {n : Int} (hn : isN t n = true) : (upsP t n).length ≤ t.length := by
  have h1 := M.upsP_len (t.length + 1) n (.inr hn)
  have h2 := M.dep_le hn
  unfold dep upsT at h2
  unfold upsP
  omega
theorem May.upsP_step {t : List Nd} (M : May t) {n : Int} (hn : isN t n = true) : upsP t n = n :: upsP t (parN t n) := by
  have h1 := M.upsP_le hn
  have hne := M.ne1 hn
  unfold upsP at *
  rw [chain_step hne] at h1 ⊢
  congr 1
  symm
  apply chain_more _ _ (by omega)
  simp at h1
  omega
theorem upsP_none (t : List Nd) : upsP t (-1) = [] := chain_nil _ _
theorem flatMap_eq {α β : Type} {f g : α → List β} : ∀ {l : List α}, (∀ x ∈ l, f x = g x) → l.flatMap f = l.flatMap g
  | [], _ => rfl
  | x :: l, h => by rw [List.flatMap_cons, List.flatMap_cons, h x List.mem_cons_self, flatMap_eq (fun y hy => h y (List.mem_cons_of_mem _ hy))]
/-- A list as deep as need be is the whole one. -/
theorem May.listIn_more {t : List Nd} (M : May t) : ∀ (f : Nat) (n : Int), isN t n = true → t.length < dep t n + f → ∀ g, f ≤ g → listIn t g n = listIn t f n
  | 0, n, hn, hf, g, hg => by have := M.dep_le hn; omega
  | f + 1, n, hn, hf, 0, hg => by omega
  | f + 1, n, hn, hf, g + 1, hg => by
    rw [listIn, listIn]
    congr 1
    apply flatMap_eq
    intro y hy
    obtain ⟨h1, h2, h3⟩ := M.dep_kid hn hy
    exact May.listIn_more M f y h1 (by omega) g (by omega)
theorem May.listT_step {t : List Nd} (M : May t) {n : Int} (hn : isN t n = true) : listT t n = n :: (nd t n).kids.flatMap (listT t) := by
  have hd : 1 ≤ dep t n := by rw [M.dep_step hn]; omega
  unfold listT
  rw [listIn]
  congr 1
  apply flatMap_eq
  intro y hy
  obtain ⟨h1, h2, h3⟩ := M.dep_kid hn hy
  exact (M.listIn_more _ y h1 (by omega) _ (by omega)).symm
theorem May.listT_in {t : List Nd} (M : May t) {n : Int} (hn : isN t n = true) {f : Nat} (hf : t.length < dep t n + f) : listIn t f n = listT t n := by
  unfold listT
  rcases Nat.le_total f (t.length + 1) with h | h
  · exact (M.listIn_more f n hn hf _ h).symm
  · exact M.listIn_more _ n hn (by omega) _ h
end Go.Proofs.Lime
namespace Go.Proofs.Lime
open Go.RowKit
set_option linter.unusedVariables false
set_option linter.unusedSimpArgs false
set_option linter.unusedSectionVars false

theorem nodup_lt : ∀ (n : Nat) (l : List Nat), l.Nodup → (∀ x ∈ l, x < n) → l.length ≤ n
  | 0, l, _, h => by
    cases l with
    | nil => simp
    | cons x l => exact absurd (h x List.mem_cons_self) (by omega)
  | n + 1, l, hd, h => by
    have h1 := nodup_lt n (l.erase n) (hd.erase n) (fun x hx => by
      have h2 := h x (List.mem_of_mem_erase hx)
      have h3 : x ≠ n := by rintro rfl; exact absurd hx (List.Nodup.not_mem_erase hd)
      omega)
    have h2 := List.length_erase (a := n) (l := l)
    split at h2 <;> omega
theorem nodup_isN {t : List Nd} {l : List Int} (hd : l.Nodup) (h : ∀ x ∈ l, isN t x = true) : l.length ≤ t.length := by
  have h1 := nodup_lt t.length (l.map Int.toNat) (by
    rw [List.nodup_iff_pairwise_ne, List.pairwise_map]
    refine List.Pairwise.imp_of_mem (fun ha hb hab => ?_) hd
    have h1 := isN_iff.1 (h _ ha)
    have h2 := isN_iff.1 (h _ hb)
    omega) (fun x hx => by
    obtain ⟨y, hy, rfl⟩ := List.mem_map.1 hx
    have := isN_iff.1 (h y hy)
    omega)
  simpa using h1

section
variable {t : List Nd} (M : May t)
include M
theorem May.par_ind {P : Int → Prop} (h0 : P (-1)) (h : ∀ n, isN t n = true → P (parN t n) → P n) : ∀ n, (n = -1 ∨ isN t n = true) → P n := by
  refine fun n hn => M.up_ind (P := fun n => P n) h0 (fun n hn ih => h n hn ?_) n hn
  by_cases h3 : (nd t n).kind = 3
  · rw [M.par_3 hn h3]; exact h0
  · rw [← M.par_up hn h3]; exact ih
theorem May.upsP_isN {n x : Int} (hn : n = -1 ∨ isN t n = true) (hx : x ∈ upsP t n) : isN t x = true := by
  revert hx
  refine M.par_ind (P := fun n => x ∈ upsP t n → isN t x = true) (by rw [upsP_none]; simp) (fun n hn ih => ?_) n hn
  rw [M.upsP_step hn, List.mem_cons]
  rintro (rfl | h)
  · exact hn
  · exact ih h
theorem May.parN_or {n : Int} (hn : isN t n = true) : parN t n = -1 ∨ isN t (parN t n) = true := (M.par hn).imp id And.left
/-- Whoever is on the way up does not lie deeper. -/
theorem May.upsP_dep {n x : Int} (hn : n = -1 ∨ isN t n = true) (hx : x ∈ upsP t n) : x = n ∨ dep t x < dep t n := by
  revert hx
  refine M.par_ind (P := fun n => x ∈ upsP t n → x = n ∨ dep t x < dep t n) (by rw [upsP_none]; simp) (fun n hn ih => ?_) n hn
  rw [M.upsP_step hn, List.mem_cons]
  rintro (h | h)
  · exact .inl h
  · refine .inr ?_
    have h3 : (nd t n).kind ≠ 3 := fun h3 => by rw [M.par_3 hn h3, upsP_none] at h; simp at h
    have hd := M.dep_step hn
    rw [M.par_up hn h3] at hd
    rcases ih h with h1 | h1
    · rw [h1]; omega
    · omega
theorem May.upsP_depth {n x y : Int} (hn : n = -1 ∨ isN t n = true) (hx : x ∈ upsP t n) (hy : y ∈ upsP t n) (h : dep t x = dep t y) : x = y := by
  revert hx hy
  refine M.par_ind (P := fun n => x ∈ upsP t n → y ∈ upsP t n → x = y) (by rw [upsP_none]; simp) (fun n hn ih => ?_) n hn
  have key : ∀ z, z ∈ upsP t (parN t n) → dep t z < dep t n := fun z hz => by
    rcases M.upsP_dep (.inr hn) (by rw [M.upsP_step hn]; exact List.mem_cons_of_mem _ hz) with h1 | h1
    · subst h1
      have h3 : (nd t z).kind ≠ 3 := fun h3 => by rw [M.par_3 hn h3, upsP_none] at hz; simp at hz
      have hd := M.dep_step hn
      rw [M.par_up hn h3] at hd
      rcases M.upsP_dep (M.parN_or hn) hz with h2 | h2
      · rw [← h2] at hd; omega
      · omega
    · exact h1
  rw [M.upsP_step hn, List.mem_cons, List.mem_cons]
  rintro (h1 | h1) (h2 | h2)
  · rw [h1, h2]
  · subst h1; have := key y h2; omega
  · subst h2; have := key x h1; omega
  · exact ih h1 h2
theorem May.upsP_trans {a b c : Int} (hc : c = -1 ∨ isN t c = true) (h1 : a ∈ upsP t b) (h2 : b ∈ upsP t c) : a ∈ upsP t c := by
  revert h2
  refine M.par_ind (P := fun c => b ∈ upsP t c → a ∈ upsP t c) (by rw [upsP_none]; simp) (fun n hn ih => ?_) c hc
  rw [M.upsP_step hn, List.mem_cons]
  rintro (rfl | h)
  · rw [← M.upsP_step hn]; exact h1
  · exact List.mem_cons_of_mem _ (ih h)
theorem May.upsP_self {n : Int} (hn : isN t n = true) : n ∈ upsP t n := by rw [M.upsP_step hn]; exact List.mem_cons_self
/-- A way down: who is in a node's list. -/
theorem May.mem_listIn {y : Int} : ∀ (f : Nat) (n : Int), isN t n = true → t.length < dep t n + f → (y ∈ listIn t f n ↔ isN t y = true ∧ n ∈ upsP t y)
  | 0, n, hn, hf => by have := M.dep_le hn; omega
  | f + 1, n, hn, hf => by
    rw [listIn, List.mem_cons, List.mem_flatMap]
    constructor
    · rintro (rfl | ⟨k, hk, hy⟩)
      · exact ⟨hn, M.upsP_self hn⟩
      · obtain ⟨h1, h2, h3⟩ := M.dep_kid hn hk
        obtain ⟨h4, h5⟩ := (May.mem_listIn f k h1 (by omega)).1 hy
        refine ⟨h4, M.upsP_trans (.inr h4) ?_ h5⟩
        rw [M.upsP_step h1, (M.kid hn hk).2.2.1]
        exact List.mem_cons_of_mem _ (M.upsP_self hn)
    · rintro ⟨h1, h2⟩
      by_cases hyn : y = n
      · exact .inl hyn
      · refine .inr ?_
        have key : ∀ z, (z = -1 ∨ isN t z = true) → n ∈ upsP t z → z = n ∨ ∃ k ∈ (nd t n).kids, k ∈ upsP t z := by
          refine M.par_ind (by rw [upsP_none]; simp) (fun z hz ih hm => ?_)
          rw [M.upsP_step hz, List.mem_cons] at hm
          rcases hm with rfl | hm
          · exact .inl rfl
          · refine .inr ?_
            rcases ih hm with h | ⟨k, hk, hkz⟩
            · refine ⟨z, ?_, M.upsP_self hz⟩
              have hne : parN t z ≠ -1 := by rw [h]; exact M.ne1 hn
              have := (M.par_mem hz hne).2
              rwa [h] at this
            · exact ⟨k, hk, by rw [M.upsP_step hz]; exact List.mem_cons_of_mem _ hkz⟩
        rcases key y (.inr h1) h2 with h | ⟨k, hk, hkz⟩
        · exact absurd h hyn
        · obtain ⟨h3, h4, h5⟩ := M.dep_kid hn hk
          exact ⟨k, hk, (May.mem_listIn f k h3 (by omega)).2 ⟨h1, hkz⟩⟩
theorem May.mem_listT {n y : Int} (hn : isN t n = true) : y ∈ listT t n ↔ isN t y = true ∧ n ∈ upsP t y := M.mem_listIn _ n hn (by omega)
theorem May.kids_nodup {n : Int} (hn : isN t n = true) : (nd t n).kids.Nodup := by
  rw [List.nodup_iff_count]
  intro y
  by_cases hy : y ∈ (nd t n).kids
  · have := (M.kid hn hy).2.1; omega
  · rw [List.count_eq_zero_of_not_mem hy]; omega
theorem May.nodup_listIn : ∀ (f : Nat) (n : Int), isN t n = true → t.length < dep t n + f → (listIn t f n).Nodup
  | 0, n, hn, hf => by have := M.dep_le hn; omega
  | f + 1, n, hn, hf => by
    rw [listIn, List.nodup_cons, List.mem_flatMap]
    refine ⟨?_, ?_⟩
    · rintro ⟨k, hk, hy⟩
      obtain ⟨h1, h2, h3⟩ := M.dep_kid hn hk
      have h4 := ((M.mem_listIn f k h1 (by omega)).1 hy).2
      rcases M.upsP_dep (.inr hn) h4 with h5 | h5
      · subst h5; omega
      · omega
    · rw [List.nodup_iff_pairwise_ne, List.pairwise_flatMap]
      refine ⟨fun k hk => ?_, ?_⟩
      · obtain ⟨h1, h2, h3⟩ := M.dep_kid hn hk
        exact May.nodup_listIn f k h1 (by omega)
      · refine List.Pairwise.imp_of_mem (fun {a b} ha hb hab x hx y hy hxy => ?_) (M.kids_nodup hn)
        subst hxy
        obtain ⟨h1, h2, h3⟩ := M.dep_kid hn ha
        obtain ⟨g1, g2, g3⟩ := M.dep_kid hn hb
        obtain ⟨e1, e2⟩ := (M.mem_listIn f a h1 (by omega)).1 hx
        obtain ⟨_, e3⟩ := (M.mem_listIn f b g1 (by omega)).1 hy
        exact hab (M.upsP_depth (.inr e1) e2 e3 (by omega))
theorem May.nodup_listT {n : Int} (hn : isN t n = true) : (listT t n).Nodup := M.nodup_listIn _ n hn (by omega)
theorem May.listT_le {n : Int} (hn : isN t n = true) : (listT t n).length ≤ t.length := nodup_isN (M.nodup_listT hn) fun x hx => ((M.mem_listT hn).1 hx).1
end
end Go.Proofs.Lime
namespace Go.Proofs.Lime
open Go.RowKit
set_option linter.unusedVariables false
set_option linter.unusedSimpArgs false
attribute [local go_sem] Oper.semAt_some

theorem oup_c (w : World) (A : Option Addr) (m c : Nat) (n : Int) : Calls Try.prog 32 #[.slice A m c, .int .i64 n] w fun e w' => e = .returned (.func (.func 45) #[] #[.pointer (some ⟨w.heap.size + 1, 0, none⟩), .pointer (some ⟨w.heap.size, 0, none⟩)]) ∧ w' = (w.alloc (.cells #[.slice A m c] 23)).alloc (.cells #[.int .i64 n] 3) := by
  go_enter Try.func32, Try.ntmps32
  go_wp2
  go_ret
  exact ⟨rfl, rfl⟩
theorem olist_c (w : World) (A : Option Addr) (m c : Nat) (n : Int) : Calls Try.prog 30 #[.slice A m c, .int .i64 n] w fun e w' => e = .returned (.func (.func 42) #[] #[.pointer (some ⟨w.heap.size, 0, none⟩), .pointer (some ⟨w.heap.size + 1, 0, none⟩)]) ∧ w' = (w.alloc (.cells #[.slice A m c] 23)).alloc (.cells #[.int .i64 n] 3) := by
  go_enter Try.func30, Try.ntmps30
  go_wp2
  go_ret
  exact ⟨rfl, rfl⟩

set_option maxRecDepth 100000 in
set_option maxHeartbeats 2000000 in
theorem oup1_it {S : Nat → Prop} {w : World} {v : Value} {t : List Nd} (hr : Row nodeK S w v t) (M : May t) {n : Nat} (hn : n < t.length) {BT BN : Nat}
    (h1 : w.cell? ⟨BT, 0, none⟩ = some v) (h2 : Boxed w BN 3 (.int .i64 n)) (hne : BT ≠ BN) (hS : ∀ b, S b → b ≠ BN) :
    Iter Try.prog 45 #[.pointer (some ⟨BN, 0, none⟩), .pointer (some ⟨BT, 0, none⟩)] (fun x : Int => #[.int .i64 x]) (· = BN) (fun b => S b ∨ b = BT) (upsP t n) w := by
  intro l J Jx O W hk hO hJ hJx hY h0
  have hOT : ¬ O BT := fun h => (hO BT h).2 (World.block_lt_of_cell? w _ h1) (.inr rfl)
  have hON : ¬ O BN := fun h => (hO BN h).1 rfl
  have hrW := hr.bound.kpt hk (fun x hx hl h => (hO x h).2 hx.2 (.inl hx.1))
  have hOS : ∀ x, S x ∧ x < w.heap.size → x < W.heap.size → ¬ (O x ∨ x = BN) := fun x hx hlt h => h.elim (fun h => (hO x h).2 hx.2 (.inl hx.1)) (hS x hx.1)
  have cT := hk.cell (p := ⟨BT, 0, none⟩) hOT h1
  have bN : Boxed W BN 3 (.int .i64 n) := (hk.block BN h2.lt hON).trans h2
  have hBW := bN.lt
  clear hr h1 h2
  obtain ⟨A, c, rfl, hc, hm⟩ := hrW.form
  obtain ⟨b, o, rfl, hSb, hb, hN⟩ := tree_base hrW (by omega)
  refine callsIn_of_wp Try.func45 rfl trivial ?_ rfl; simp only [Try.ntmps45, List.size_toArray, List.length_cons, List.length_nil, Nat.reduceAdd, Nat.reduceSub, Array.replicate_succ, Array.replicate_zero, List.push_toArray, List.append_toArray, List.nil_append, List.cons_append]
  have hxl := M.upsP_le (isN_of hn)
  have U0 := Lib.hid (show UpSt (fun m => isN t m = true) (parN t) (upsP t n) (t.length + 1) BN O J W 0 n O W from ⟨Nat.zero_le _, .inr (isN_of hn), rfl, Kpt.refl _ _, fun b hb => .inl hb, h0, bN⟩)
  generalize hxs : upsP t n = xs at hY U0 hxl
  have HX := Lib.hid hxs
  clear hxs h0 bN
  gi_wp2
  gi_loopw [] (fun wr => ∃ (k : Nat) (m : Int) (O' : Nat → Prop), Aside (UpSt (fun m => isN t m = true) (parN t) xs (t.length + 1) BN O J W k m O' wr)) (fun wr => (chainIn (parN t) (t.length + 1) (intOf ((wr.cell? ⟨BN, 0, none⟩).getD undef))).length)
  case atStart => exact ⟨0, n, O, U0⟩
  case round =>
    obtain ⟨k, m, O', U⟩ := hrel
    have cT' := U.out.kp.cell (p := ⟨BT, 0, none⟩) (fun h => h.elim hOT hne) cT
    have cN' := U.out.box.cell
    by_cases hm1 : m = -1
    · subst hm1
      gi_wp2
      refine ⟨fun _ h => (by cases h), ?_⟩
      gi_wp2
      refine bodyPost_end (results_none rfl _ _ _) rfl ?_
      exact ⟨⟨_, rfl⟩, O', .inl U.out.over⟩
    · have hkF : k < t.length + 1 := by have := U.out.le; omega
      obtain ⟨j, rfl, hj⟩ := isN_nat (U.out.cur.resolve_left hm1)
      obtain ⟨hkx, hxk, _⟩ := U.out.next hm1 hkF
      have hY1 := hY k hkx O' wr U.out.inv
      rw [hxk] at hY1
      obtain ⟨fn, tmps, assign, body, hy, hR⟩ := hY1
      have hne1 : ((j : Int) != -1) = true := by simp
      obtain ⟨Ak, ck, Aa, ca, N⟩ := (hN j hj)
      gi_wp2
      refine ⟨rfl, hR.mono ?_⟩
      rintro e W3 ⟨O3, h3, hk3, (⟨rfl, hj3⟩ | ⟨rfl, hj3⟩)⟩
      · have hk3' : Kpt (fun b => O b ∨ b = BN) W W3 := U.out.kp.trans hk3 fun x hx => (U.out.sub x hx).imp .inl id
        have cT3 := hk3'.cell (p := ⟨BT, 0, none⟩) (fun h => h.elim hOT hne) cT
        have hnN : ¬ O' BN := fun h => (U.out.sub BN h).elim hON (fun h => by omega)
        have bN3 := Boxed.keep U.out.box hk3 hnN
        have cN3 := Boxed.cell bN3
        have fN3 := Boxed.frozen bN3
        have x2 := hk3'.cell (p := ⟨b, o + j * 7 + 2, none⟩) (hOS b hSb hb) N.c2
        have hp : t[j].parent = parN t j := by rw [parN, nd_nat hj]
        have U3 := Lib.hid (U.out.go hON hBW hm1 hkF ((M.par (isN_of hj)).imp id And.left) h3 hk3 hj3 hJ).2
        have HM := Lib.hid (show (chainIn (parN t) (t.length + 1) (parN t j)).length < (chainIn (parN t) (t.length + 1) j).length by
          have := M.upsP_step (isN_of hj); unfold upsP at this; rw [this]; simp)
        rw [hp] at x2
        generalize parN t j = p at x2 U3 HM
        have hjz : (j : Int) < (t.length : Int) := by omega
        have HC := Lib.hid cN'
        clear bN3 N hY hy hp cN'
        gi_wp2
        go_roundw
        case rel => exact ⟨k + 1, p, O3, U3⟩
        case measure =>
          have h5 : (W3.setCell ⟨BN, 0, none⟩ (.int .i64 p)).cell? ⟨BN, 0, none⟩ = some (.int .i64 p) := Boxed.cell U3.out.box
          rw [h5, HC.out]
          exact HM.out
      · gi_wp2
        refine bodyPost_end (results_none rfl _ _ _) rfl ?_
        exact ⟨⟨_, rfl⟩, O3, .inr ⟨_, hj3⟩⟩
theorem drop_app {α : Type} {xs ys zs : List α} {k : Nat} (h : xs.drop k = ys ++ zs) : xs.drop (k + ys.length) = zs := by
  rw [← List.drop_drop, h, List.drop_left]
theorem flat_take {α : Type} {f : Int → List α} {l : List Int} {i : Nat} (h : i < l.length) : (l.take (i + 1)).flatMap f = (l.take i).flatMap f ++ f l[i] := by
  rw [List.take_succ_eq_append_getElem h, List.flatMap_append]; simp
set_option maxRecDepth 100000 in
set_option maxHeartbeats 2000000 in
/-- Down from a node: all of its list is handed over, from place k0 of the whole on. -/
theorem down_c {S : Nat → Prop} {B0 : Nat} {A : Option Addr} {c : Nat} {t : List Nd} (M : May t) (l : Nat) (J Jx : Nat → (Nat → Prop) → World → Prop) (tot : List Int) (hSB : ∀ b, S b → b < B0)
    (hY : ∀ k (hk : k < tot.length) (O : Nat → Prop) (W1 : World), J k O W1 → YieldAt Fence.wide 0 Try.prog l #[.int .i64 tot[k]] W1 fun e W' => ∃ O', (∀ b, O' b → O b ∨ W1.heap.size ≤ b) ∧ Kpt O W1 W' ∧
      ((e = .returned (.bool true) ∧ J (k + 1) O' W') ∨ (e = .returned (.bool false) ∧ Jx (k + 1) O' W'))) :
    ∀ (f : Nat) (n : Int) (k0 : Nat) (O : Nat → Prop) (W : World) (rest : List Int), isN t n = true → t.length < dep t n + f → tot.drop k0 = listIn t f n ++ rest → Row nodeK S W (.slice A t.length c) t → B0 ≤ W.heap.size → (∀ b, O b → ¬ S b) → J k0 O W →
    CallsIn Fence.wide 0 Try.prog 43 #[.slice A t.length c, .int .i64 n, .func (.yield l) #[] #[]] W fun e W' => ∃ O', (∀ b, O' b → O b ∨ W.heap.size ≤ b) ∧ Kpt O W W' ∧
      ((e = .returned (.bool true) ∧ J (k0 + (listIn t f n).length) O' W') ∨ (e = .returned (.bool false) ∧ ∃ k, Jx k O' W')) := by
  intro f
  induction f with
  | zero => intro n k0 O W rest hn hf; have := M.dep_le hn; omega
  | succ f ih =>
    intro n k0 O W rest hn hf htot hr hB hO h0
    rw [listIn] at htot
    obtain ⟨hk, hxk, htot2⟩ := drop_cons htot
    have hY1 := hY k0 hk O W h0
    rw [hxk] at hY1
    obtain ⟨fn, tmps, assign, body, hy, hR⟩ := hY1
    obtain ⟨j, rfl, hj⟩ := isN_nat hn
    have hks : ∀ y, y ∈ (nd t j).kids → isN t y = true ∧ t.length < dep t y + f := fun y hy => by
      obtain ⟨h1, _, h2⟩ := M.dep_kid hn hy
      exact ⟨h1, by omega⟩
    have hlen := Lib.hid (show (listIn t (f + 1) j).length = 1 + ((nd t j).kids.flatMap (listIn t f)).length by rw [listIn]; simp; omega)
    rw [nd_nat hj] at hks htot2 hlen
    refine callsIn_of_wp Try.func43 rfl trivial ?_ rfl; simp only [Try.ntmps43, List.size_toArray, List.length_cons, List.length_nil, Nat.reduceAdd, Nat.reduceSub, Array.replicate_succ, Array.replicate_zero, List.push_toArray, List.append_toArray, List.nil_append, List.cons_append]
    gi_wp2
    refine ⟨rfl, hR.mono ?_⟩
    rintro e W3 ⟨O3, h3, hk3, (⟨rfl, hj3⟩ | ⟨rfl, hj3⟩)⟩
    · clear hy hR hY
      have hr3 : Row nodeK S W3 (.slice A t.length c) t := hr.kpt hk3 fun x hx _ h => hO x h hx
      obtain ⟨hc, hm⟩ : t.length ≤ c ∧ t.length ≤ 9223372036854775807 := by
        obtain ⟨A', c', e, h1, h2⟩ := hr.form
        injection e with e1 e2 e3
        exact ⟨by omega, h2⟩
      obtain ⟨b, o, rfl, hSb, hb, hN⟩ := tree_base hr3 (by omega)
      obtain ⟨Ak, ck, Aa, ca, N⟩ := hN j hj
      have x3 := N.c3
      have hrk := N.kids
      have hkc := N.k1
      have hk2 := N.k2
      have hjz : (j : Int) < (t.length : Int) := by omega
      clear N hN
      generalize t[j].kids = ks at x3 hrk hks htot2 hkc hk2 hlen
      have hsz := hk3.size
      have hO3 : ∀ x, O3 x → ¬ S x := fun x hx h => (h3 x hx).elim (fun h' => hO x h' h) (fun h' => by have := hSB x h; omega)
      gi_wp2
      gi_loopw [8, 19] (fun s8 s19 wr => ∃ (i : Nat) (O' : Nat → Prop), s19 = .int .i64 i ∧ i ≤ ks.length ∧ Aside ((∀ b, O' b → O3 b ∨ W3.heap.size ≤ b) ∧ Kpt O3 W3 wr ∧ J (k0 + 1 + ((ks.take i).flatMap (listIn t f)).length) O' wr)) (fun _ s19 _ => ks.length - (intOf s19).toNat)
      case atStart => exact ⟨0, O3, rfl, Nat.zero_le _, fun b hb => .inl hb, Kpt.refl _ _, by simpa using hj3⟩
      case round =>
        obtain ⟨i, O', rfl, hi, HA⟩ := hrel
        by_cases hlt : i < ks.length
        · have hltz : (i : Int) < (ks.length : Int) := by omega
          have hrw : Row nodeK S wr (.slice (some ⟨b, o, none⟩) t.length c) t := hr3.kpt HA.out.2.1 fun x hx _ h => hO3 x h hx
          have hrkw := hrk.kpt HA.out.2.1 fun x hx _ h => hO3 x h hx
          obtain ⟨b', o', rfl, _, _, y0⟩ := int_at hrkw i hlt
          have hy1 := hks _ (List.getElem_mem hlt)
          have hci := ih ks[i] _ O' wr ((ks.drop (i + 1)).flatMap (listIn t f) ++ rest) hy1.1 hy1.2 (by
            refine drop_app ?_ (ys := (ks.take i).flatMap (listIn t f))
            rw [htot2, ← List.append_assoc, ← List.append_assoc, ← flat_take hlt, ← List.flatMap_append, List.take_append_drop]; try rfl) hrw (by have := HA.out.2.1.size; omega) (fun x hx => (HA.out.1 x hx).elim (hO3 x) (fun h h' => by have := hSB x h'; omega)) HA.out.2.2
          have HL := Lib.hid (show k0 + 1 + ((ks.take i).flatMap (listIn t f)).length + (listIn t f ks[i]).length = k0 + 1 + ((ks.take (i + 1)).flatMap (listIn t f)).length by rw [flat_take hlt, List.length_append]; omega)
          generalize ks[i] = y at y0 hci HL
          clear hy1 ih
          gi_wp2
          refine ⟨trivial, rfl, hci.mono ?_⟩
          rintro e W4 ⟨O4, h4, hk4, (⟨rfl, hj4⟩ | ⟨rfl, k4, hj4⟩)⟩
          · gi_wp2
            go_roundw
            case rel => exact ⟨i + 1, O4, by go_num, by omega, fun x hx => (h4 x hx).elim (HA.out.1 x) (fun h => by have := HA.out.2.1.size; exact .inr (by omega)), HA.out.2.1.trans hk4 HA.out.1, by rw [← HL.out]; exact hj4⟩
            case measure => simp [intOf]; omega
          · gi_wp2
            go_ret
            exact ⟨O4, fun x hx => (h4 x hx).elim (fun h => (HA.out.1 x h).elim (h3 x) (fun h => .inr (by omega))) (fun h => by have := HA.out.2.1.size; exact .inr (by omega)), hk3.trans (HA.out.2.1.trans hk4 HA.out.1) h3, .inr ⟨rfl, k4, hj4⟩⟩
        · have hltz : ¬ (i : Int) < (ks.length : Int) := by omega
          gi_wp2
          go_ret
          exact ⟨O', fun x hx => (HA.out.1 x hx).elim (h3 x) (fun h => .inr (by omega)), hk3.trans HA.out.2.1 h3, .inl ⟨rfl, by rw [hlen.out]; have := HA.out.2.2; rw [List.take_of_length_le (by omega)] at this; rw [← Nat.add_assoc]; exact this⟩⟩
    · gi_wp2
      go_ret
      exact ⟨O3, h3, hk3, .inr ⟨rfl, _, hj3⟩⟩
end Go.Proofs.Lime
namespace Go.Proofs.Lime
open Go.RowKit
set_option linter.unusedVariables false
set_option linter.unusedSimpArgs false
attribute [local go_sem] Oper.semAt_some

/-- Few kids of each node. -/
def KidsOk (t : List Nd) : Prop := ∀ k (hk : k < t.length), t[k].kids.length ≤ 1000

set_option maxHeartbeats 1000000 in
theorem olist1_it {S : Nat → Prop} {w : World} {A : Option Addr} {c : Nat} {t : List Nd} (hr : Row nodeK S w (.slice A t.length c) t) (M : May t) {n : Int} (hn : isN t n = true) {BT BN : Nat}
    (h1 : w.cell? ⟨BT, 0, none⟩ = some (.slice A t.length c)) (h2 : w.cell? ⟨BN, 0, none⟩ = some (.int .i64 n)) :
    Iter Try.prog 42 #[.pointer (some ⟨BT, 0, none⟩), .pointer (some ⟨BN, 0, none⟩)] (fun x : Int => #[.int .i64 x]) (fun _ => False) (fun b => S b ∨ b = BT ∨ b = BN) (listT t n) w := by
  intro l J Jx O W hk hO hJ hJx hY h0
  have hOT : ¬ O BT := fun h => (hO BT h).2 (World.block_lt_of_cell? w _ h1) (.inr (.inl rfl))
  have hON : ¬ O BN := fun h => (hO BN h).2 (World.block_lt_of_cell? w _ h2) (.inr (.inr rfl))
  have hrW := hr.bound.kpt hk (fun x hx hl h => (hO x h).2 hx.2 (.inl hx.1))
  have cT := hk.cell (p := ⟨BT, 0, none⟩) hOT h1
  have cN := hk.cell (p := ⟨BN, 0, none⟩) hON h2
  have hd := down_c (S := fun k => S k ∧ k < w.heap.size) (B0 := w.heap.size) (A := A) (c := c) M l J Jx (listT t n) (fun b hb => hb.2) hY (t.length + 1) n 0 O W [] hn (by omega) (by rw [List.append_nil]; rfl) hrW hk.size (fun b hb h => (hO b hb).2 h.2 (.inl h.1)) h0
  clear hr h1 h2 hY
  refine callsIn_of_wp Try.func42 rfl trivial ?_ rfl; simp only [Try.ntmps42, List.size_toArray, List.length_cons, List.length_nil, Nat.reduceAdd, Nat.reduceSub, Array.replicate_succ, Array.replicate_zero, List.push_toArray, List.append_toArray, List.nil_append, List.cons_append]
  gi_wp2
  refine ⟨trivial, rfl, hd.mono ?_⟩
  rintro e W4 ⟨O4, h4, hk4, (⟨rfl, hj4⟩ | ⟨rfl, k4, hj4⟩)⟩
  · gi_wp2
    refine bodyPost_end (results_none rfl _ _ _) rfl ?_
    exact ⟨⟨_, rfl⟩, O4, .inl (by rw [Nat.zero_add] at hj4; exact hj4)⟩
  · gi_wp2
    refine bodyPost_end (results_none rfl _ _ _) rfl ?_
    exact ⟨⟨_, rfl⟩, O4, .inr ⟨_, hj4⟩⟩

def allT (t : List Nd) (ns : List Int) : Bool := mayT t && !(ns.any fun n => !isN t n)
theorem all1_c {w : World} {A : Option Addr} {t : List Nd} {c : Nat} (hl : t.length ≤ 64) (y : Int) (B : Nat) (h1 : w.cell? ⟨B, 0, none⟩ = some (.slice A t.length c)) :
    Calls Try.prog 41 #[.int .i64 y, .pointer (some ⟨B, 0, none⟩)] w fun e w' => e = .returned (.bool (!isN t y)) ∧ Stp w w' := by
  go_enter Try.func41, Try.ntmps41
  go_wp2
  all_goals
    go_ret
    exact ⟨ret_bool (by clear h1; grind [isN]), by (repeat (first | exact Stp.refl _ | assumption | refine Stp.drew ?_ | refine Stp.drewN ?_ _ | refine Stp.alloc ?_ _ | refine Stp.setCell ?_ (by first | omega | (simp; omega) | simp) _ | refine Stp.trans ?_ (by assumption)))⟩
set_option maxHeartbeats 1000000 in
theorem all_c {S T : Nat → Prop} {w : World} {v u : Value} {t : List Nd} {ns : List Int} (hr : Row nodeK S w v t) (hks : KidsOk t) (hi : Row intK T w u ns) :
    Calls Try.prog 29 #[v, u] w fun e w' => e = .returned (.bool (allT t ns)) ∧ Stp w w' := by
  obtain ⟨A, c, rfl, hc, hm⟩ := hr.form
  obtain ⟨A2, c2, rfl, hc2, hm2⟩ := hi.form
  have ck := fun W (hW : Stp w W) => check_c (hr.stp hW) hks
  have eg := (enters_of Try.func41 (by kernel_rfl) rfl)
  cases h : mayT t with
  | false =>
    have HA := Lib.hid (show allT t ns = false by rw [allT, h]; rfl)
    rw [h] at ck
    simp only [Bool.false_eq_true, if_false] at ck
    go_enter Try.func29, Try.ntmps29
    go_wp2_with (go_at_call 39; refine (ck _ (by (repeat (first | exact Stp.refl _ | assumption | refine Stp.drew ?_ | refine Stp.drewN ?_ _ | refine Stp.alloc ?_ _ | refine Stp.setCell ?_ (by first | omega | (simp; omega) | simp) _ | refine Stp.trans ?_ (by assumption))))).mono ?_; rintro e w1 ⟨rfl, hb1⟩)
    go_ret
    exact ⟨ret_bool (by rw [HA.out]), by (repeat (first | exact Stp.refl _ | assumption | refine Stp.drew ?_ | refine Stp.drewN ?_ _ | refine Stp.alloc ?_ _ | refine Stp.setCell ?_ (by first | omega | (simp; omega) | simp) _ | refine Stp.trans ?_ (by assumption)))⟩
  | true =>
    have HA := Lib.hid (show allT t ns = !(ns.any fun n => !isN t n) by rw [allT, h]; rfl)
    have hl := (May.of h).len2
    rw [h] at ck
    simp only [if_true] at ck
    go_enter Try.func29, Try.ntmps29
    go_wp2_with fail
    obtain ⟨w0, hw0⟩ : ∃ w0, w.alloc (.cells #[.slice A t.length c] 23) = w0 := ⟨_, rfl⟩
    have b0 : Boxed w0 w.heap.size 23 (.slice A t.length c) := by rw [← hw0]; exact Boxed.new _ _ _
    have hs0 : Stp w w0 := by rw [← hw0]; exact (Stp.refl w).alloc _
    rw [hw0]
    clear hw0
    have g0 := Boxed.cell b0
    refine (ck _ hs0).mono ?_
    rintro e w1 ⟨rfl, hb1⟩
    replace g0 := hb1.cell g0
    go_wp2_with (go_at_call 40; refine (containsFuncI_c (hi.stp (by (repeat (first | exact Stp.refl _ | assumption | refine Stp.drew ?_ | refine Stp.drewN ?_ _ | refine Stp.alloc ?_ _ | refine Stp.setCell ?_ (by first | omega | (simp; omega) | simp) _ | refine Stp.trans ?_ (by assumption))))) (fun y => !isN t y) _ _ eg ?hp).mono ?_; (case hp => exact fun W y hW => all1_c hl y _ (hW.cell g0)); rintro e w9 ⟨rfl, hb9⟩)
    go_ret
    exact ⟨ret_bool (by rw [HA.out]), by (repeat (first | exact Stp.refl _ | assumption | refine Stp.drew ?_ | refine Stp.drewN ?_ _ | refine Stp.alloc ?_ _ | refine Stp.setCell ?_ (by first | omega | (simp; omega) | simp) _ | refine Stp.trans ?_ (by assumption)))⟩

/-- One number, just laid. -/
theorem one_row (w : World) (n : Int) : Row intK (fun b => b = w.heap.size) (w.alloc (.cells #[.int .i64 n] 3)) (.slice (some ⟨w.heap.size, 0, none⟩) 1 1) [n] := Row.box (World.alloc_heap_new w _) rfl rfl
theorem all_one {t : List Nd} {n : Int} : allT t [n] = (mayT t && isN t n) := by simp [allT]

def upsR (t : List Nd) (n : Int) : List Int := if mayT t = true ∧ isN t n = true then upsP t n else []
def listR (t : List Nd) (n : Int) : List Int := if mayT t = true ∧ isN t n = true then listT t n else []
def topR (t : List Nd) (n : Int) : Int := if mayT t = true ∧ isN t n = true then topT t n else -1
set_option maxHeartbeats 1000000 in
theorem olist_r {S : Nat → Prop} {w : World} {v : Value} {t : List Nd} (hr : Row nodeK S w v t) (hks : KidsOk t) (n : Int) :
    Calls Try.prog 14 #[v, .int .i64 n] w fun e w' => ∃ u, e = .returned u ∧ Own intK 3 (fun b => w.heap.size ≤ b) w' u (listR t n) ∧ Stp w w' := by
  have hrb := hr.bound
  obtain ⟨A, c, rfl, hc, hm⟩ := hr.form
  have ca := fun (_ : Unit) => all_c (hr.stp ((Stp.refl w).alloc (.cells #[.int .i64 n] 3))) hks (one_row w n)
  cases ho : allT t [n] with
  | false =>
    rw [ho] at ca
    have HR := Lib.hid (show listR t n = [] by rw [listR, if_neg (by rintro ⟨h1, h2⟩; rw [all_one, h1, h2] at ho; cases ho)])
    clear ho
    go_enter Try.func14, Try.ntmps14
    go_wp2_with (go_at_call 29; refine (ca ()).mono ?_; rintro e w1 ⟨rfl, hb1⟩)
    go_ret
    exact ⟨_, rfl, by rw [HR.out]; exact Own.nil _ _ _ _, by (repeat (first | exact Stp.refl _ | assumption | refine Stp.drew ?_ | refine Stp.drewN ?_ _ | refine Stp.alloc ?_ _ | refine Stp.setCell ?_ (by first | omega | (simp; omega) | simp) _ | refine Stp.trans ?_ (by assumption)))⟩
  | true =>
    rw [ho] at ca
    rw [all_one, Bool.and_eq_true] at ho
    have M := May.of ho.1
    have hn := ho.2
    have HR := Lib.hid (show listR t n = listT t n by rw [listR, if_pos ho])
    clear ho
    have eg := (enters_of Try.func42 (by kernel_rfl) rfl)
    go_enter Try.func14, Try.ntmps14
    go_wp2_with (first | (go_at_call 29; refine (ca ()).mono ?_; rintro e w1 ⟨rfl, hb1⟩) | (go_at_call 30; refine (olist_c _ _ _ _ _).mono ?_; rintro e w' ⟨rfl, rfl⟩))
    obtain ⟨w2, hw2, hs2, hz2, bT, bN⟩ := two_boxes w1 23 3 (.slice A t.length c) (.int .i64 n)
    rw [hw2]
    clear hw2
    have hst : Stp w w2 := by (repeat (first | exact Stp.refl _ | assumption | refine Stp.drew ?_ | refine Stp.drewN ?_ _ | refine Stp.alloc ?_ _ | refine Stp.setCell ?_ (by first | omega | (simp; omega) | simp) _ | refine Stp.trans ?_ (by assumption)))
    have hit := olist1_it (hrb.stp hst) M hn (Boxed.cell bT) (Boxed.cell bN)
    have hle := M.listT_le hn
    have hl2 := M.len2
    have hszw := hst.size
    generalize hxs : listT t n = xs at HR hit hle
    have HX := Lib.hid hxs
    clear hxs
    refine (collect_c eg hit (fun _ h => h.elim) (fun b hb => hb.elim (fun h => by have := h.2; omega) (fun h => by omega)) (by omega)).mono ?_
    rintro e w3 ⟨u, rfl, ho, hk⟩
    have hs3 : Stp w2 w3 := hk.stp fun _ h => h.elim
    have ho2 := Lib.hid (ho.mono (S' := fun b => w.heap.size ≤ b) fun k hk _ => by omega)
    clear ho hit
    go_wp2
    go_ret
    exact ⟨_, rfl, by rw [HR.out]; exact ho2, by (repeat (first | exact Stp.refl _ | assumption | refine Stp.drew ?_ | refine Stp.drewN ?_ _ | refine Stp.alloc ?_ _ | refine Stp.setCell ?_ (by first | omega | (simp; omega) | simp) _ | refine Stp.trans ?_ (by assumption)))⟩

set_option maxHeartbeats 1000000 in
theorem oup_r {S : Nat → Prop} {w : World} {v : Value} {t : List Nd} (hr : Row nodeK S w v t) (hks : KidsOk t) (n : Int) :
    Calls Try.prog 15 #[v, .int .i64 n] w fun e w' => ∃ u, e = .returned u ∧ Own intK 3 (fun b => w.heap.size ≤ b) w' u (upsR t n) ∧ Stp w w' := by
  have hrb := hr.bound
  obtain ⟨A, c, rfl, hc, hm⟩ := hr.form
  have ca := fun (_ : Unit) => all_c (hr.stp ((Stp.refl w).alloc (.cells #[.int .i64 n] 3))) hks (one_row w n)
  cases ho : allT t [n] with
  | false =>
    rw [ho] at ca
    have HR := Lib.hid (show upsR t n = [] by rw [upsR, if_neg (by rintro ⟨h1, h2⟩; rw [all_one, h1, h2] at ho; cases ho)])
    clear ho
    go_enter Try.func15, Try.ntmps15
    go_wp2_with (go_at_call 29; refine (ca ()).mono ?_; rintro e w1 ⟨rfl, hb1⟩)
    go_ret
    exact ⟨_, rfl, by rw [HR.out]; exact Own.nil _ _ _ _, by (repeat (first | exact Stp.refl _ | assumption | refine Stp.drew ?_ | refine Stp.drewN ?_ _ | refine Stp.alloc ?_ _ | refine Stp.setCell ?_ (by first | omega | (simp; omega) | simp) _ | refine Stp.trans ?_ (by assumption)))⟩
  | true =>
    rw [ho] at ca
    rw [all_one, Bool.and_eq_true] at ho
    have M := May.of ho.1
    have hn := ho.2
    have HR := Lib.hid (show upsR t n = upsP t n by rw [upsR, if_pos ho])
    clear ho
    have eg := (enters_of Try.func45 (by kernel_rfl) rfl)
    go_enter Try.func15, Try.ntmps15
    go_wp2_with (first | (go_at_call 29; refine (ca ()).mono ?_; rintro e w1 ⟨rfl, hb1⟩) | (go_at_call 32; refine (oup_c _ _ _ _ _).mono ?_; rintro e w' ⟨rfl, rfl⟩))
    obtain ⟨w2, hw2, hs2, hz2, bT, bN⟩ := two_boxes w1 23 3 (.slice A t.length c) (.int .i64 n)
    rw [hw2]
    clear hw2
    have hst : Stp w w2 := by (repeat (first | exact Stp.refl _ | assumption | refine Stp.drew ?_ | refine Stp.drewN ?_ _ | refine Stp.alloc ?_ _ | refine Stp.setCell ?_ (by first | omega | (simp; omega) | simp) _ | refine Stp.trans ?_ (by assumption)))
    have hszw := hst.size
    have hsz1 : w.heap.size ≤ w1.heap.size := Stp.size (by (repeat (first | exact Stp.refl _ | assumption | refine Stp.drew ?_ | refine Stp.drewN ?_ _ | refine Stp.alloc ?_ _ | refine Stp.setCell ?_ (by first | omega | (simp; omega) | simp) _ | refine Stp.trans ?_ (by assumption))))
    obtain ⟨j, rfl, hj⟩ := isN_nat hn
    have hit := oup1_it (hrb.stp hst) M hj (Boxed.cell bT) bN (by omega) (fun b hb => by have := hb.2; omega)
    have hle := M.upsP_le hn
    have hl2 := M.len2
    generalize hxs : upsP t j = xs at HR hit hle
    have HX := Lib.hid hxs
    clear hxs
    refine (collect_c eg hit (fun _ h => by omega) (fun b hb => hb.elim (fun h => by have := h.2; omega) (fun h => by omega)) (by omega)).mono ?_
    rintro e w3 ⟨u, rfl, ho, hk⟩
    have hs3 : Stp w w3 := ((Kpt.of_stp (O := fun b => w.heap.size ≤ b) hst).trans hk fun x hx => .inl (by omega)).stp fun _ h => h
    have ho2 := Lib.hid (ho.mono (S' := fun b => w.heap.size ≤ b) fun k hk _ => by omega)
    clear ho hit
    go_wp2
    go_ret
    exact ⟨_, rfl, by rw [HR.out]; exact ho2, hs3⟩

/-- What 'Top' holds between two rounds. -/
structure TopSt (C : Nat → Prop) (xs : List Int) (B : Nat) (w : World) (k : Nat) (O : Nat → Prop) (W : World) : Prop where mk ::
  ob : O B
  new : ∀ b, O b → b = B ∨ w.heap.size ≤ b
  kp : Kpt (fun b => C b ∨ b = B) w W
  box : Boxed W B 3 (.int .i64 ((xs.take k).getLastD (-1)))
theorem top_abide (C : Nat → Prop) (xs : List Int) (B : Nat) (w : World) : Abide C w.heap.size (TopSt C xs B w) := by
  intro k O A W h hk
  exact ⟨h.ob, h.new, h.kp.trans hk (fun x hx => hx.2.imp .inl id), Boxed.keep h.box hk (fun hb => hb.1 h.ob)⟩
theorem take_last {xs : List Int} {k : Nat} (h : k < xs.length) (d : Int) : (xs.take (k + 1)).getLastD d = xs[k] := by
  rw [List.take_succ_eq_append_getElem h]; exact List.getLastD_concat ..

set_option maxHeartbeats 1000000 in
theorem otop_r {S : Nat → Prop} {w : World} {v : Value} {t : List Nd} (hr : Row nodeK S w v t) (hks : KidsOk t) (n : Int) :
    Calls Try.prog 16 #[v, .int .i64 n] w fun e w' => e = .returned (.int .i64 (topR t n)) ∧ Stp w w' := by
  have hrb := hr.bound
  obtain ⟨A, c, rfl, hc, hm⟩ := hr.form
  have ca := fun (_ : Unit) => all_c (hr.stp (((Stp.refl w).alloc (.cells #[.int .i64 (-1)] 3)).alloc (.cells #[.int .i64 n] 3))) hks (one_row _ n)
  simp only [World.size_alloc] at ca
  have hs1 : Stp w ((w.alloc (.cells #[.int .i64 (-1)] 3)).alloc (.cells #[.int .i64 n] 3)) := ((Stp.refl w).alloc _).alloc _
  have b1 : Boxed ((w.alloc (.cells #[.int .i64 (-1)] 3)).alloc (.cells #[.int .i64 n] 3)) w.heap.size 3 (.int .i64 (-1)) := Boxed.alloc (Boxed.new _ _ _) _
  cases ho : allT t [n] with
  | false =>
    rw [ho] at ca
    have HR := Lib.hid (show topR t n = -1 by rw [topR, if_neg (by rintro ⟨h1, h2⟩; rw [all_one, h1, h2] at ho; cases ho)])
    clear ho
    refine (callsIn_wide (n := 0)).1 (callsIn_of_wp_marks Try.func16 rfl trivial (wpIn_wide.2 ?_) rfl); simp only [Try.ntmps16, List.size_toArray, List.length_cons, List.length_nil, Nat.reduceAdd, Nat.reduceSub, Array.replicate_succ, Array.replicate_zero, List.push_toArray, List.append_toArray, List.nil_append, List.cons_append]
    go_wp2_with fail
    refine (ca ()).mono ?_
    rintro e w1 ⟨rfl, hb1⟩
    have g1 := Boxed.cell (Boxed.stp b1 hb1)
    go_wp2
    exact ⟨_, results_tmp rfl _ _ _, by rw [HR.out]; rfl, hs1.trans hb1⟩
  | true =>
    rw [ho] at ca
    rw [all_one, Bool.and_eq_true] at ho
    have M := May.of ho.1
    have hn := ho.2
    have HR := Lib.hid (show topR t n = (upsP t n).getLastD (-1) by rw [topR, if_pos ho]; rfl)
    clear ho
    have eg := (enters_of Try.func45 (by kernel_rfl) rfl)
    refine (callsIn_wide (n := 0)).1 (callsIn_of_wp_marks Try.func16 rfl trivial (wpIn_wide.2 ?_) rfl); simp only [Try.ntmps16, List.size_toArray, List.length_cons, List.length_nil, Nat.reduceAdd, Nat.reduceSub, Array.replicate_succ, Array.replicate_zero, List.push_toArray, List.append_toArray, List.nil_append, List.cons_append]
    go_wp2_with fail
    refine (ca ()).mono ?_
    rintro e w1 ⟨rfl, hb1⟩
    replace b1 := Boxed.stp b1 hb1
    go_wp2_with (go_at_call 32; refine (oup_c _ _ _ _ _).mono ?_; rintro e w' ⟨rfl, rfl⟩)
    obtain ⟨w2, hw2, hs2, hz2, bT, bN⟩ := two_boxes w1 23 3 (.slice A t.length c) (.int .i64 n)
    rw [hw2]
    clear hw2
    replace b1 := Boxed.stp b1 hs2
    have hst : Stp w w2 := by (repeat (first | exact Stp.refl _ | assumption | refine Stp.drew ?_ | refine Stp.drewN ?_ _ | refine Stp.alloc ?_ _ | refine Stp.setCell ?_ (by first | omega | (simp; omega) | simp) _ | refine Stp.trans ?_ (by assumption)))
    have hszw := hst.size
    have hsz1 : w.heap.size + 2 ≤ w1.heap.size := by have := hb1.size; simpa using this
    obtain ⟨j, rfl, hj⟩ := isN_nat hn
    have hit := oup1_it (hrb.stp hst) M hj (Boxed.cell bT) bN (by omega) (fun b hb => by have := hb.2; omega)
    generalize hxs : upsP t j = xs at HR hit
    have HX := Lib.hid hxs
    clear hxs
    generalize hB : w.heap.size = B at *
    refine wp_range2 (gf := 45) rfl eg hit (fun _ => rfl) (fun b hb => by omega) (· = B) (fun b hb => ?_) (TopSt (· = w1.heap.size + 1) xs B w2) (fun _ _ _ _ => False) (top_abide _ _ _ _) (fun _ _ _ _ _ h _ => h) ?_ (fun a' k O W => TopSt (· = w1.heap.size + 1) xs B w2 (k + 1) O W) (fun _ k => top_abide _ _ _ _ (k + 1)) ?_ ?_ ?_ ?_
    · subst hb
      exact ⟨by omega, fun h => by omega, fun h => h.elim (fun h => by have := h.2; omega) (fun h => by omega)⟩
    · exact ⟨rfl, fun b hb => .inl hb, Kpt.refl _ _, b1⟩
    · intro l k hk O W K hI hK
      have hcB := Boxed.cell hI.box
      have hfB := Boxed.frozen hI.box
      have hkp : Kpt O W (W.setCell ⟨B, 0, none⟩ (.int .i64 xs[k])) := Kpt.setCell W _ hI.ob
      have H2 := Lib.hid (show TopSt (· = w1.heap.size + 1) xs B w2 (k + 1) O (W.setCell ⟨B, 0, none⟩ (.int .i64 xs[k])) from ⟨hI.ob, hI.new, hI.kp.trans hkp fun b hb => (hI.new b hb).imp .inr id, by rw [take_last hk]; exact Boxed.set _ hI.box⟩)
      clear hI
      generalize xs[k] = x at H2 hkp
      gi_wp2
      exact hK _ O _ (fun b hb => .inl hb) hkp H2
    · intro l k hk a' O W hI
      gi_wp2
      exact ⟨O, fun b hb => .inl hb, Kpt.refl _ _, hI⟩
    · intro D O W hD hn hI hWD
      have hcB := Boxed.cell hI.box
      rw [List.take_of_length_le (Nat.le_refl _)] at hcB
      go_wp2
      refine leaves_mark hWD (results_tmp rfl _ _ _) ⟨by rw [HR.out, List.getLastD_eq_getLast?]; rfl, ?_⟩
      have hk1 : Kpt (fun b => B ≤ b) w W := ((Kpt.of_stp (O := fun b => B ≤ b) hst).trans hI.kp fun x hx => .inl (by omega))
      exact (hk1.trans (Kpt.put (O := fun b => b = D) W _ rfl) fun x hx => .inl (by omega)).stp fun x hx => by omega
    · intro D c k O W _ _ h
      exact h.elim
end Go.Proofs.Lime
namespace Go.Proofs.Lime
open Go.RowKit
set_option linter.unusedVariables false
set_option linter.unusedSimpArgs false
attribute [local go_sem] Oper.semAt_some

/-- Does a come ahead of b in a list (b there)? s: a has come. -/
def scanB (a b : Int) : Bool → List Int → Bool
  | _, [] => false
  | s, n :: r => if n = a then scanB a b true r else if n = b then s else scanB a b s r
def beforeR (t : List Nd) (a b : Int) : Bool := if (mayT t && (isN t a && isN t b)) = true ∧ a ≠ b then scanB a b false (listT t (topT t a)) else false

structure BefSt (a b : Int) (xs : List Int) (Br Bs : Nat) (w : World) (k : Nat) (O : Nat → Prop) (W : World) : Prop where mk ::
  oR : O Br
  oS : O Bs
  new : ∀ x, O x → (x = Br ∨ x = Bs) ∨ w.heap.size ≤ x
  kp : Kpt (fun x => x = Br ∨ x = Bs) w W
  bR : ∃ r, Boxed W Br 4 (.bool r)
  bS : ∃ s, Boxed W Bs 4 (.bool s) ∧ scanB a b s (xs.drop k) = scanB a b false xs
structure BefEx (a b : Int) (xs : List Int) (Br Bs : Nat) (w : World) (O : Nat → Prop) (W : World) : Prop where mk ::
  oR : O Br
  new : ∀ x, O x → (x = Br ∨ x = Bs) ∨ w.heap.size ≤ x
  kp : Kpt (fun x => x = Br ∨ x = Bs) w W
  bR : Boxed W Br 4 (.bool (scanB a b false xs))
theorem bef_abide (a b : Int) (xs : List Int) (Br Bs : Nat) (w : World) : Abide (fun _ => False) w.heap.size (BefSt a b xs Br Bs w) := by
  intro k O A W h hk
  obtain ⟨r, hr⟩ := h.bR
  obtain ⟨s, hs, he⟩ := h.bS
  exact ⟨h.oR, h.oS, h.new, h.kp.trans hk (fun x hx => .inr (hx.2.resolve_left id)), ⟨r, Boxed.keep hr hk (fun hb => hb.1 h.oR)⟩, s, Boxed.keep hs hk (fun hb => hb.1 h.oS), he⟩
theorem befx_abide (a b : Int) (xs : List Int) (Br Bs : Nat) (w : World) (c : Code) : Abide (fun _ => False) w.heap.size (fun _ O W => c = .ret ∧ BefEx a b xs Br Bs w O W) := by
  rintro k O A W ⟨hc, h⟩ hk
  exact ⟨hc, h.oR, h.new, h.kp.trans hk (fun x hx => .inr (hx.2.resolve_left id)), Boxed.keep h.bR hk (fun hb => hb.1 h.oR)⟩
theorem topT_isN {t : List Nd} (M : May t) {n : Int} (hn : isN t n = true) : isN t (topT t n) = true := by
  have h1 := M.upsP_step hn
  refine M.upsP_isN (.inr hn) ?_
  rw [topT, List.getLastD_eq_getLast?, List.getLast?_eq_some_getLast (by rw [h1]; simp)]
  exact List.getLast_mem _

/-- Two numbers, just laid. -/
theorem two_row (w : World) (a b : Int) : Row intK (fun x => x = w.heap.size) (w.alloc (.cells #[.int .i64 a, .int .i64 b] 3)) (.slice (some ⟨w.heap.size, 0, none⟩) 2 2) [a, b] := by
  refine ⟨⟨_, 2, rfl, by simp, by simp⟩, fun j hj => ?_⟩
  have hj2 : j = 0 ∨ j = 1 := by simp at hj; omega
  rcases hj2 with rfl | rfl
  · refine ⟨_, 0, 2, [.int .i64 a], rfl, rfl, by simp, rfl, fun i u hi => ?_⟩
    obtain ⟨rfl, rfl⟩ : i = 0 ∧ u = .int .i64 a := by cases i <;> simp_all
    exact box_at w _ _ 0 _ rfl
  · refine ⟨_, 0, 2, [.int .i64 b], rfl, rfl, by simp, rfl, fun i u hi => ?_⟩
    obtain ⟨rfl, rfl⟩ : i = 0 ∧ u = .int .i64 b := by cases i <;> simp_all
    exact box_at w _ _ 1 _ rfl
theorem all_two {t : List Nd} {a b : Int} : allT t [a, b] = (mayT t && (isN t a && isN t b)) := by simp [allT]
theorem three_boxes (w : World) (s t u : TypeId) (x y z : Value) : ∃ W, ((w.alloc (.cells #[x] s)).alloc (.cells #[y] t)).alloc (.cells #[z] u) = W ∧ Stp w W ∧ W.heap.size = w.heap.size + 3 ∧ Boxed W w.heap.size s x ∧ Boxed W (w.heap.size + 1) t y ∧ Boxed W (w.heap.size + 1 + 1) u z := by
  obtain ⟨W, h, h1, h2, h3, h4⟩ := two_boxes w s t x y
  refine ⟨_, rfl, (((Stp.refl w).alloc _).alloc _).alloc _, by simp, ?_, ?_, ?_⟩
  · rw [h]; exact Boxed.alloc h3 _
  · rw [h]; exact Boxed.alloc h4 _
  · rw [h]; have := Boxed.new W u z; rw [h2] at this; exact this

set_option maxHeartbeats 2000000 in
theorem obefore_r {S : Nat → Prop} {w : World} {v : Value} {t : List Nd} (hr : Row nodeK S w v t) (hks : KidsOk t) (a b : Int) :
    Calls Try.prog 12 #[v, .int .i64 a, .int .i64 b] w fun e w' => e = .returned (.bool (beforeR t a b)) ∧ Stp w w' := by
  have hrb := hr.bound
  obtain ⟨A, c, rfl, hc, hm⟩ := hr.form
  have eg := (enters_of Try.func42 (by kernel_rfl) rfl)
  obtain ⟨w3, hw3, hs3, hz3, bA, bB, bR⟩ := three_boxes w 3 3 4 (.int .i64 a) (.int .i64 b) (.bool false)
  have ca := all_c (hr.stp (hs3.alloc _)) hks (two_row w3 a b)
  rw [hz3] at ca
  have cA := Boxed.cell bA
  have cB := Boxed.cell bB
  have cR := Boxed.cell bR
  refine (callsIn_wide (n := 0)).1 (callsIn_of_wp_marks Try.func12 rfl trivial (wpIn_wide.2 ?_) rfl); simp only [Try.ntmps12, List.size_toArray, List.length_cons, List.length_nil, Nat.reduceAdd, Nat.reduceSub, Array.replicate_succ, Array.replicate_zero, List.push_toArray, List.append_toArray, List.nil_append, List.cons_append]
  go_wp2_with fail
  clear hw3 cA cB cR
  refine ca.mono ?_
  rintro e w4 ⟨rfl, hb4⟩
  have hs4 : Stp w3 w4 := ((Stp.refl w3).alloc _).trans hb4
  replace bA := Boxed.stp bA hs4
  replace bB := Boxed.stp bB hs4
  replace bR := Boxed.stp bR hs4
  have cA := Boxed.cell bA
  have cB := Boxed.cell bB
  have cR := Boxed.cell bR
  have fR := Boxed.frozen bR
  have hz4 : w.heap.size + 4 ≤ w4.heap.size := by have := hb4.size; simp at this; omega
  cases ho : allT t [a, b] with
  | false =>
    have HR := Lib.hid (show beforeR t a b = false by rw [beforeR, if_neg (by rw [← all_two, ho]; simp)])
    go_wp2
    refine ⟨.bool false, by simp [results, Try.results12, go_sem, World.cell?_setCell_same' _ _ _ (show (_ : Option Value).isSome = true by rw [cR]; rfl)], by rw [HR.out], ?_⟩
    exact ((Kpt.of_stp (O := fun x => x = w.heap.size + 1 + 1) (hs3.trans ((Stp.refl w3).alloc _ |>.trans hb4))).trans (Kpt.setCell (O := fun x => x = w.heap.size + 1 + 1) w4 _ rfl) fun x hx => .inl hx).stp fun x hx => by omega
  | true =>
    by_cases hab : a = b
    · have HR := Lib.hid (show beforeR t a b = false by rw [beforeR, if_neg (by rintro ⟨_, h⟩; exact h hab)])
      have habz : (a == b) = true := by simp [hab]
      clear hab
      go_wp2
      refine ⟨.bool false, by simp [results, Try.results12, go_sem, World.cell?_setCell_same' _ _ _ (show (_ : Option Value).isSome = true by rw [cR]; rfl)], by rw [HR.out], ?_⟩
      exact ((Kpt.of_stp (O := fun x => x = w.heap.size + 1 + 1) (hs3.trans ((Stp.refl w3).alloc _ |>.trans hb4))).trans (Kpt.setCell (O := fun x => x = w.heap.size + 1 + 1) w4 _ rfl) fun x hx => .inl hx).stp fun x hx => by omega
    · have habz : (a == b) = false := by simp [hab]
      rw [all_two, Bool.and_eq_true, Bool.and_eq_true] at ho
      have M := May.of ho.1
      have hna := ho.2.1
      have HR := Lib.hid (show beforeR t a b = scanB a b false (listT t (topT t a)) by rw [beforeR, if_pos ⟨by simp [ho.1, ho.2.1, ho.2.2], hab⟩])
      have HT := Lib.hid (show topR t a = topT t a by rw [topR, if_pos ⟨ho.1, hna⟩])
      have hab2 := Lib.hid hab
      clear ho hab
      have ct := fun W (hW : Stp w W) => otop_r (hr.stp hW) hks a
      rw [HT.out] at ct
      have cA5 := Boxed.cell (Boxed.alloc bA (.cells #[.bool false] 4))
      have cB5 := Boxed.cell (Boxed.alloc bB (.cells #[.bool false] 4))
      go_wp2_with fail
      obtain ⟨w5, hw5, hs5, hz5, bS⟩ := one_box w4 4 (.bool false)
      rw [hw5]
      replace bA := Boxed.stp bA hs5
      replace bB := Boxed.stp bB hs5
      replace bR := Boxed.stp bR hs5
      clear hw5 cA cB cR fR cA5 cB5
      refine (ct _ (by (repeat (first | exact Stp.refl _ | assumption | refine Stp.drew ?_ | refine Stp.drewN ?_ _ | refine Stp.alloc ?_ _ | refine Stp.setCell ?_ (by first | omega | (simp; omega) | simp) _ | refine Stp.trans ?_ (by assumption))))).mono ?_
      rintro e w6 ⟨rfl, hb6⟩
      have htn := topT_isN M hna
      go_wp2_with (go_at_call 30; refine (olist_c _ _ _ _ _).mono ?_; rintro e w' ⟨rfl, rfl⟩)
      obtain ⟨w7, hw7, hs7, hz7, bT, bN⟩ := two_boxes w6 23 3 (.slice A t.length c) (.int .i64 (topT t a))
      rw [hw7]
      clear hw7
      have hs57 : Stp w5 w7 := hb6.trans hs7
      replace bA := Boxed.stp bA hs57
      replace bB := Boxed.stp bB hs57
      replace bR := Boxed.stp bR hs57
      replace bS := Boxed.stp bS hs57
      have hst : Stp w w7 := by (repeat (first | exact Stp.refl _ | assumption | refine Stp.drew ?_ | refine Stp.drewN ?_ _ | refine Stp.alloc ?_ _ | refine Stp.setCell ?_ (by first | omega | (simp; omega) | simp) _ | refine Stp.trans ?_ (by assumption)))
      have hz6 := hb6.size
      have hit := olist1_it (hrb.stp hst) M htn (Boxed.cell bT) (Boxed.cell bN)
      generalize hxs : listT t (topT t a) = xs at HR hit
      have HX := Lib.hid hxs
      generalize topT t a = ta at *
      clear hxs ct hr hrb htn
      refine wp_range (gf := 42) rfl eg hit (fun _ => rfl) (fun _ h => h.elim) (fun x => x = w.heap.size + 1 + 1 ∨ x = w4.heap.size) (fun x hx => ⟨by omega, id, fun h => h.elim (fun h => by have := h.2; omega) (fun h => by omega)⟩) (BefSt a b xs (w.heap.size + 1 + 1) w4.heap.size w7) (fun c _ O W => c = .ret ∧ BefEx a b xs (w.heap.size + 1 + 1) w4.heap.size w7 O W) (bef_abide _ _ _ _ _ _) (befx_abide _ _ _ _ _ _) ⟨.inl rfl, .inr rfl, fun x hx => .inl hx, Kpt.refl _ _, ⟨_, bR⟩, _, bS, rfl⟩ (fun x => { tmps := #[.slice A t.length c, .int .i64 a, .int .i64 b, undef, .pointer (some ⟨w.heap.size, 0, none⟩), .pointer (some ⟨w.heap.size + 1, 0, none⟩), .pointer (some ⟨w.heap.size + 1 + 1, 0, none⟩), .pointer (some ⟨w4.heap.size, 0, none⟩), .int .i64 x, .slice A t.length c, .int .i64 a, .int .i64 b, .slice (some ⟨w.heap.size + 3, 0, none⟩) 2 2, .bool true, .bool false, .bool false, .int .i64 a, .int .i64 b, .bool false, .bool false, .slice A t.length c, .slice A t.length c, .int .i64 a, .int .i64 ta, .func (.func 42) #[] #[.pointer (some ⟨w6.heap.size, 0, none⟩), .pointer (some ⟨w6.heap.size + 1, 0, none⟩)], .int .i64 x, undef, undef, undef, undef, undef, undef, undef, undef], defers := [] }) ?_ ?_ ?_ ?_
      · intro l x W K hK
        gi_wp2
        exact hK
      · intro l k hk O W hI
        have cA := hI.kp.cell (p := ⟨w.heap.size, 0, none⟩) (by show ¬ (w.heap.size = _ ∨ w.heap.size = _); omega) (Boxed.cell bA)
        have cB := hI.kp.cell (p := ⟨w.heap.size + 1, 0, none⟩) (by show ¬ (w.heap.size + 1 = _ ∨ w.heap.size + 1 = _); omega) (Boxed.cell bB)
        obtain ⟨r, hR⟩ := hI.bR
        obtain ⟨s, hS, he⟩ := hI.bS
        have cR := Boxed.cell hR
        have fR := Boxed.frozen hR
        have cS := Boxed.cell hS
        have fS := Boxed.frozen hS
        rw [List.drop_eq_getElem_cons hk, scanB] at he
        have HE := Lib.hid he
        have H2 := Lib.hid hI
        have hRq := Lib.hid hR
        have hSq := Lib.hid hS
        clear he hI hR hS
        generalize xs[k] = x at HE
        by_cases hxa : x = a
        · have hxz : (x == a) = true := by simp [hxa]
          have h1 := HE.out
          rw [if_pos hxa] at h1
          have HE1 := Lib.hid h1
          clear h1 hxa
          gi_wp2
          have hkp : Kpt O W (W.setCell ⟨w4.heap.size, 0, none⟩ (.bool true)) := Kpt.setCell W _ H2.out.oS
          exact ⟨O, fun b hb => .inl hb, hkp, H2.out.oR, H2.out.oS, H2.out.new, H2.out.kp.trans hkp H2.out.new, ⟨r, Boxed.other hRq.out (by omega) _⟩, true, Boxed.set _ hSq.out, HE1.out⟩
        · have hxz : (x == a) = false := by simp [hxa]
          have h1 := HE.out
          rw [if_neg hxa] at h1
          have HE1 := Lib.hid h1
          clear h1 hxa
          by_cases hxb : x = b
          · have hxz2 : (x == b) = true := by simp [hxb]
            have h1 := HE1.out
            rw [if_pos hxb] at h1
            have HE2 := Lib.hid h1
            clear h1 hxb
            gi_wp2
            have hkp : Kpt O W (W.setCell ⟨w.heap.size + 1 + 1, 0, none⟩ (.bool s)) := Kpt.setCell W _ H2.out.oR
            exact ⟨O, fun b hb => .inl hb, hkp, rfl, H2.out.oR, H2.out.new, H2.out.kp.trans hkp H2.out.new, by rw [← HE2.out]; exact Boxed.set _ hRq.out⟩
          · have hxz2 : (x == b) = false := by simp [hxb]
            have h1 := HE1.out
            rw [if_neg hxb] at h1
            have HE2 := Lib.hid h1
            clear h1 hxb
            gi_wp2
            exact ⟨O, fun b hb => .inl hb, Kpt.refl _ _, H2.out.oR, H2.out.oS, H2.out.new, H2.out.kp, ⟨r, hRq.out⟩, s, hSq.out, HE2.out⟩
      · intro D O W hD hn hI hWD
        obtain ⟨r, hR⟩ := hI.bR
        have cR := Boxed.cell hR
        have fR := Boxed.frozen hR
        go_wp2
        have h1 : (W.setCell ⟨w.heap.size + 1 + 1, 0, none⟩ (.bool false)).heap[D]? = some (.deferred (some [])) := (Below.heap_setCell W ⟨w.heap.size + 1 + 1, 0, none⟩ (.bool false) D (fun e => by have e' : D = w.heap.size + 1 + 1 := e; omega)).trans hWD
        have h2 : ((W.setCell ⟨w.heap.size + 1 + 1, 0, none⟩ (.bool false)).putObj D (.deferred none)).cell? ⟨w.heap.size + 1 + 1, 0, none⟩ = some (.bool false) := Boxed.cell (show Boxed _ _ 4 _ from (World.putObj_heap_other (by omega)).trans (Boxed.set _ hR))
        obtain ⟨s, _, he⟩ := hI.bS
        rw [List.drop_eq_nil_of_le (Nat.le_refl _), scanB] at he
        refine leaves_mark h1 (v := .bool false) (by simp [results, Try.results12, go_sem, h2]) ⟨by rw [HR.out, ← he], ?_⟩
        have hk1 : Kpt (fun b => w.heap.size + 1 + 1 ≤ b) w W := ((Kpt.of_stp (O := fun b => w.heap.size + 1 + 1 ≤ b) hst).trans hI.kp fun x hx => .inl (by omega))
        exact ((kpt_store hk1 (Nat.le_refl _)).trans (Kpt.put (O := fun b => b = D) _ _ rfl) fun x hx => .inl (by omega)).stp fun x hx => by omega
      · rintro D c k O W hD hn ⟨rfl, hI⟩ hWD
        have cR := Boxed.cell hI.bR
        go_wp2
        have h2 : (W.putObj D (.deferred none)).cell? ⟨w.heap.size + 1 + 1, 0, none⟩ = some (.bool (scanB a b false xs)) := Boxed.cell (show Boxed _ _ 4 _ from (World.putObj_heap_other (by omega)).trans hI.bR)
        refine leaves_mark hWD (v := .bool (scanB a b false xs)) (by simp [results, Try.results12, go_sem, h2]) ⟨by rw [HR.out], ?_⟩
        have hk1 : Kpt (fun b => w.heap.size + 1 + 1 ≤ b) w W := ((Kpt.of_stp (O := fun b => w.heap.size + 1 + 1 ≤ b) hst).trans hI.kp fun x hx => .inl (by omega))
        exact (hk1.trans (Kpt.put (O := fun b => b = D) _ _ rfl) fun x hx => .inl (by omega)).stp fun x hx => by omega
end Go.Proofs.Lime
