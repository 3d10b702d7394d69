/- Trees that may be, in plain words: steps up, ways up, and how deep a node lies. Tree order in plain words: ways up by parents, tops, lists. Tree order in plain words: lists have each node once; who is in them. Shadows in plain words: hosts, ways up through hosts, what is told of a node to another one. Forests in plain words: who comes to whom going up, whoever is below, each once. Shadows in plain words: laws of what is told of a node to another one. Shadows in plain words: whom a root holds. Slots in plain words: attributes, the slots of a shadow, who is laid into which one. The flat tree in plain words: kids, parents, a rank that falls going up. Which way an event goes, in plain words. -/
import Derived.Test.YtaggmjnpocndkaaGreatMA
namespace Go.Proofs.Lime
open Go.RowKit
set_option linter.unusedVariables false
set_option linter.unusedSimpArgs false
set_option linter.unusedSectionVars false

theorem chain_more {s : Int → Int} : ∀ {f : Nat} {n : Int}, (chainIn s f n).length < f → ∀ g, f ≤ g → chainIn s g n = chainIn s f n
  | 0, _, h, _, _ => by simp at h
  | f + 1, n, h, 0, hg => by omega
  | f + 1, n, h, g + 1, hg => by
    rw [chainIn] at h ⊢
    rw [chainIn]
    split
    · rfl
    · rename_i hn
      rw [if_neg hn] at h
      rw [chain_more (f := f) (by simpa using h) g (by omega)]
theorem chain_mem {s : Int → Int} : ∀ {f : Nat} {n x : Int}, x ∈ chainIn s f n → x ≠ -1
  | 0, _, _, h => by simp [chainIn] at h
  | f + 1, n, x, h => by
    rw [chainIn] at h
    split at h
    · simp at h
    · rcases List.mem_cons.1 h with rfl | h
      · assumption
      · exact chain_mem h

structure May (t : List Nd) : Prop where mk ::
  len1 : 1 ≤ t.length
  len2 : t.length ≤ 64
  node : ∀ k : Nat, k < t.length → nodeOk t k = true
  ends : ∀ k : Nat, k < t.length → endsIn t (t.length + 1) k = true
theorem May.of {t : List Nd} (h : mayT t = true) : May t := by
  simp only [mayT, Bool.and_eq_true, decide_eq_true_eq, allTo_iff] at h
  exact ⟨h.1.1, h.1.2, h.2.1, h.2.2⟩
theorem May.iff {t : List Nd} : mayT t = true ↔ May t := by
  refine ⟨May.of, fun h => ?_⟩
  simp only [mayT, Bool.and_eq_true, decide_eq_true_eq, allTo_iff]
  exact ⟨⟨h.len1, h.len2⟩, h.node, h.ends⟩
def parN (t : List Nd) (n : Int) : Int := (nd t n).parent
section
variable {t : List Nd} (M : May t) {n : Int} (hn : isN t n = true)
include M hn
theorem May.parts : kindOk (nd t n) n = true ∧ attrsOk (nd t n) = true ∧ kidsOk t n = true ∧ shadowOk t n = true := by
  obtain ⟨k, rfl, hk⟩ := isN_nat hn
  have := M.node k hk
  simpa only [nodeOk, Bool.and_eq_true] using this
theorem May.kid {y : Int} (hy : y ∈ (nd t n).kids) : isN t y = true ∧ (nd t n).kids.count y = 1 ∧ parN t y = n ∧ ((nd t y).kind = 1 ∨ (nd t y).kind = 2) := by
  have h := (M.parts hn).2.2.1
  simp only [kidsOk, Bool.and_eq_true] at h
  have h1 := List.all_eq_true.1 h.1 y hy
  simpa only [kidOk, Bool.and_eq_true, Bool.or_eq_true, decide_eq_true_eq, parN] using h1
theorem May.par : parN t n = -1 ∨ (isN t (parN t n) = true ∧ (nd t (parN t n)).kids.count n = 1) := by
  have h := (M.parts hn).2.2.1
  simp only [kidsOk, Bool.and_eq_true, Bool.or_eq_true, decide_eq_true_eq] at h
  exact h.2.2
theorem May.par_mem (h : parN t n ≠ -1) : isN t (parN t n) = true ∧ n ∈ (nd t (parN t n)).kids := by
  obtain ⟨h1, h2⟩ := (M.par hn).resolve_left h
  exact ⟨h1, List.count_pos_iff.1 (by omega)⟩
theorem May.kinds : 0 ≤ (nd t n).kind ∧ (nd t n).kind ≤ 3 ∧ ((nd t n).kind = 0 ↔ n = 0) := by
  have h := (M.parts hn).1
  simp only [kindOk, Bool.and_eq_true, decide_eq_true_eq, beq_iff_eq, decide_eq_decide] at h
  exact ⟨h.2.1, h.2.2.1, h.1⟩
theorem May.sh3 (h : (nd t n).kind = 3) : (nd t n).root = -1 ∧ parN t n = -1 ∧ isN t (nd t n).host = true ∧ (nd t (nd t n).host).kind = 1 ∧ (nd t (nd t n).host).root = n := by
  have h1 := (M.parts hn).2.2.2
  rw [shadowOk, if_pos h] at h1
  simpa only [Bool.and_eq_true, decide_eq_true_eq, parN] using h1
theorem May.shn (h : (nd t n).kind ≠ 3) : (nd t n).host = -1 ∧ ((nd t n).root = -1 ∨ ((nd t n).kind = 1 ∧ isN t (nd t n).root = true ∧ (nd t (nd t n).root).kind = 3 ∧ (nd t (nd t n).root).host = n)) := by
  have h1 := (M.parts hn).2.2.2
  rw [shadowOk, if_neg h] at h1
  simpa only [Bool.and_eq_true, Bool.or_eq_true, decide_eq_true_eq] using h1
theorem May.up : upN t n = -1 ∨ isN t (upN t n) = true := by
  have hp := M.par hn
  rw [upN]
  split
  · rename_i h; exact .inr (M.sh3 hn h).2.2.1
  · rcases hp with h | h
    · exact .inl h
    · exact .inr h.1
theorem May.root {r : Int} (hr : (nd t n).root = r) (h : r ≠ -1) : (nd t n).kind = 1 ∧ isN t r = true ∧ (nd t r).kind = 3 ∧ (nd t r).host = n := by
  subst hr
  by_cases h3 : (nd t n).kind = 3
  · exact absurd (M.sh3 hn h3).1 h
  · exact (M.shn hn h3).2.resolve_left h
theorem May.ne1 : n ≠ -1 := by rintro rfl; simp [isN] at hn
end

/-- The way up from n. -/
def upsT (t : List Nd) (n : Int) : List Int := chainIn (upN t) (t.length + 1) n
def dep (t : List Nd) (n : Int) : Nat := (upsT t n).length
section
variable {t : List Nd} (M : May t) {n : Int} (hn : isN t n = true)
include M hn
theorem May.dep_le : dep t n ≤ t.length := by
  obtain ⟨k, rfl, hk⟩ := isN_nat hn
  have := M.ends k hk
  rw [ends_chain] at this
  have := of_decide_eq_true this
  unfold dep upsT; omega
theorem May.ups_step : upsT t n = n :: upsT t (upN t n) := by
  have h1 := M.dep_le hn
  have hne := M.ne1 hn
  unfold dep at h1
  unfold upsT at *
  rw [chain_step hne] at h1 ⊢
  congr 1
  symm
  apply chain_more _ _ (by omega)
  simp at h1
  omega
theorem May.dep_step : dep t n = dep t (upN t n) + 1 := by
  rw [dep, M.ups_step hn]; rfl
end
theorem upsT_none (t : List Nd) : upsT t (-1) = [] := chain_nil _ _
section
variable {t : List Nd} (M : May t)
include M
theorem May.dep_kid {n y : Int} (hn : isN t n = true) (hy : y ∈ (nd t n).kids) : isN t y = true ∧ upN t y = n ∧ dep t y = dep t n + 1 := by
  obtain ⟨h1, _, h2, h3⟩ := M.kid hn hy
  have hu : upN t y = n := by rw [upN, if_neg (by omega)]; exact h2
  exact ⟨h1, hu, by rw [M.dep_step h1, hu]⟩
theorem May.dep_root {n r : Int} (hn : isN t n = true) (hr : (nd t n).root = r) (h : r ≠ -1) : isN t r = true ∧ upN t r = n ∧ dep t r = dep t n + 1 := by
  obtain ⟨_, h1, h2, h3⟩ := M.root hn hr h
  have hu : upN t r = n := by rw [upN, if_pos h2]; exact h3
  exact ⟨h1, hu, by rw [M.dep_step h1, hu]⟩
/-- Induction on steps up. -/
theorem May.up_ind {P : Int → Prop} (h0 : P (-1)) (h : ∀ n, isN t n = true → P (upN t n) → P n) : ∀ n, (n = -1 ∨ isN t n = true) → P n := by
  have key : ∀ d n, (n = -1 ∨ isN t n = true) → dep t n = d → P n := by
    intro d
    induction d with
    | zero =>
      rintro n (rfl | hn) hd
      · exact h0
      · rw [M.dep_step hn] at hd; omega
    | succ d ih =>
      rintro n (rfl | hn) hd
      · exact h0
      · exact h n hn (ih _ (M.up hn) (by rw [M.dep_step hn] at hd; omega))
  exact fun n hn => key _ n hn rfl
theorem May.ups_mem {n x : Int} (hn : n = -1 ∨ isN t n = true) (hx : x ∈ upsT t n) : isN t x = true := by
  revert hx
  refine M.up_ind (P := fun n => x ∈ upsT t n → isN t x = true) (by rw [upsT_none]; simp) (fun n hn ih => ?_) n hn
  rw [M.ups_step hn, List.mem_cons]
  rintro (rfl | h)
  · exact hn
  · exact ih h
end
end Go.Proofs.Lime
namespace Go.Proofs.Lime
open Go.RowKit
set_option linter.unusedVariables false
set_option linter.unusedSimpArgs false
set_option linter.unusedSectionVars false

def upsP (t : List Nd) (n : Int) : List Int := chainIn (parN t) (t.length + 1) n
/-- A node and all below it, at most f deep. -/
def listIn (t : List Nd) : Nat → Int → List Int
  | 0, _ => []
  | f + 1, n => n :: (nd t n).kids.flatMap (listIn t f)
def listT (t : List Nd) (n : Int) : List Int := listIn t (t.length + 1) n
def topT (t : List Nd) (n : Int) : Int := (upsP t n).getLastD (-1)
section
variable {t : List Nd} (M : May t) {n : Int} (hn : isN t n = true)
include M hn
theorem May.par_up (h : (nd t n).kind ≠ 3) : upN t n = parN t n := by rw [upN, if_neg h]; rfl
theorem May.par_3 (h : (nd t n).kind = 3) : parN t n = -1 := (M.sh3 hn h).2.1
end
theorem May.upsP_len {t : List Nd} (M : May t) : ∀ (f : Nat) (n : Int), (n = -1 ∨ isN t n = true) → (chainIn (parN t) f n).length ≤ (chainIn (upN t) f n).length
  | 0, _, _ => by simp [chainIn]
  | f + 1, n, hn => by
    rcases hn with rfl | hn
    · simp [chain_nil]
    · rw [chain_step (M.ne1 hn), chain_step (M.ne1 hn)]
      by_cases h3 : (nd t n).kind = 3
      · rw [M.par_3 hn h3, chain_nil]; simp
      · have := May.upsP_len M f (parN t n) ((M.par hn).imp id And.left)
        rw [M.par_up hn h3]
        simpa using this
theorem May.upsP_le {t : List Nd} (M : May t) {n : Int} (hn : isN t n = true) : (upsP t n).length ≤ t.length := by
  have h1 := M.upsP_len (t.length + 1) n (.inr hn)
  have h2 := M.dep_le hn
  unfold dep upsT at h2
  unfold upsP
  omega
theorem May.upsP_step {t : List Nd} (M : May t) {n : Int} (hn : isN t n = true) : upsP t n = n :: upsP t (parN t n) := by
  have h1 := M.upsP_le hn
  have hne := M.ne1 hn
  unfold upsP at *
  rw [chain_step hne] at h1 ⊢
  congr 1
  symm
  apply chain_more _ _ (by omega)
  simp at h1
  omega
theorem upsP_none (t : List Nd) : upsP t (-1) = [] := chain_nil _ _
theorem flatMap_eq {α β : Type} {f g : α → List β} : ∀ {l : List α}, (∀ x ∈ l, f x = g x) → l.flatMap f = l.flatMap g
  | [], _ => rfl
  | x :: l, h => by rw [List.flatMap_cons, List.flatMap_cons, h x List.mem_cons_self, flatMap_eq (fun y hy => h y (List.mem_cons_of_mem _ hy))]
/-- A list as deep as need be is the whole one. -/
theorem May.listIn_more {t : List Nd} (M : May t) : ∀ (f : Nat) (n : Int), isN t n = true → t.length < dep t n + f → ∀ g, f ≤ g → listIn t g n = listIn t f n
  | 0, n, hn, hf, g, hg => by have := M.dep_le hn; omega
  | f + 1, n, hn, hf, 0, hg => by omega
  | f + 1, n, hn, hf, g + 1, hg => by
    rw [listIn, listIn]
    congr 1
    apply flatMap_eq
    intro y hy
    obtain ⟨h1, h2, h3⟩ := M.dep_kid hn hy
    exact May.listIn_more M f y h1 (by omega) g (by omega)
theorem May.listT_step {t : List Nd} (M : May t) {n : Int} (hn : isN t n = true) : listT t n = n :: (nd t n).kids.flatMap (listT t) := by
  have hd : 1 ≤ dep t n := by rw [M.dep_step hn]; omega
  unfold listT
  rw [listIn]
  congr 1
  apply flatMap_eq
  intro y hy
  obtain ⟨h1, h2, h3⟩ := M.dep_kid hn hy
  exact (M.listIn_more _ y h1 (by omega) _ (by omega)).symm
theorem May.listT_in {t : List Nd} (M : May t) {n : Int} (hn : isN t n = true) {f : Nat} (hf : t.length < dep t n + f) : listIn t f n = listT t n := by
  unfold listT
  rcases Nat.le_total f (t.length + 1) with h | h
  · exact (M.listIn_more f n hn hf _ h).symm
  · exact M.listIn_more _ n hn (by omega) _ h
end Go.Proofs.Lime
namespace Go.Proofs.Lime
open Go.RowKit
set_option linter.unusedVariables false
set_option linter.unusedSimpArgs false
set_option linter.unusedSectionVars false

theorem nodup_lt : ∀ (n : Nat) (l : List Nat), l.Nodup → (∀ x ∈ l, x < n) → l.length ≤ n
  | 0, l, _, h => by
    cases l with
    | nil => simp
    | cons x l => exact absurd (h x List.mem_cons_self) (by omega)
  | n + 1, l, hd, h => by
    have h1 := nodup_lt n (l.erase n) (hd.erase n) (fun x hx => by
      have h2 := h x (List.mem_of_mem_erase hx)
      have h3 : x ≠ n := by rintro rfl; exact absurd hx (List.Nodup.not_mem_erase hd)
      omega)
    have h2 := List.length_erase (a := n) (l := l)
    split at h2 <;> omega
theorem nodup_isN {t : List Nd} {l : List Int} (hd : l.Nodup) (h : ∀ x ∈ l, isN t x = true) : l.length ≤ t.length := by
  have h1 := nodup_lt t.length (l.map Int.toNat) (by
    rw [List.nodup_iff_pairwise_ne, List.pairwise_map]
    refine List.Pairwise.imp_of_mem (fun ha hb hab => ?_) hd
    have h1 := isN_iff.1 (h _ ha)
    have h2 := isN_iff.1 (h _ hb)
    omega) (fun x hx => by
    obtain ⟨y, hy, rfl⟩ := List.mem_map.1 hx
    have := isN_iff.1 (h y hy)
    omega)
  simpa using h1

section
variable {t : List Nd} (M : May t)
include M
theorem May.par_ind {P : Int → Prop} (h0 : P (-1)) (h : ∀ n, isN t n = true → P (parN t n) → P n) : ∀ n, (n = -1 ∨ isN t n = true) → P n := by
  refine fun n hn => M.up_ind (P := fun n => P n) h0 (fun n hn ih => h n hn ?_) n hn
  by_cases h3 : (nd t n).kind = 3
  · rw [M.par_3 hn h3]; exact h0
  · rw [← M.par_up hn h3]; exact ih
theorem May.upsP_isN {n x : Int} (hn : n = -1 ∨ isN t n = true) (hx : x ∈ upsP t n) : isN t x = true := by
  revert hx
  refine M.par_ind (P := fun n => x ∈ upsP t n → isN t x = true) (by rw [upsP_none]; simp) (fun n hn ih => ?_) n hn
  rw [M.upsP_step hn, List.mem_cons]
  rintro (rfl | h)
  · exact hn
  · exact ih h
theorem May.parN_or {n : Int} (hn : isN t n = true) : parN t n = -1 ∨ isN t (parN t n) = true := (M.par hn).imp id And.left
/-- Whoever is on the way up does not lie deeper. -/
theorem May.upsP_dep {n x : Int} (hn : n = -1 ∨ isN t n = true) (hx : x ∈ upsP t n) : x = n ∨ dep t x < dep t n := by
  revert hx
  refine M.par_ind (P := fun n => x ∈ upsP t n → x = n ∨ dep t x < dep t n) (by rw [upsP_none]; simp) (fun n hn ih => ?_) n hn
  rw [M.upsP_step hn, List.mem_cons]
  rintro (h | h)
  · exact .inl h
  · refine .inr ?_
    have h3 : (nd t n).kind ≠ 3 := fun h3 => by rw [M.par_3 hn h3, upsP_none] at h; simp at h
    have hd := M.dep_step hn
    rw [M.par_up hn h3] at hd
    rcases ih h with h1 | h1
    · rw [h1]; omega
    · omega
theorem May.upsP_depth {n x y : Int} (hn : n = -1 ∨ isN t n = true) (hx : x ∈ upsP t n) (hy : y ∈ upsP t n) (h : dep t x = dep t y) : x = y := by
  revert hx hy
  refine M.par_ind (P := fun n => x ∈ upsP t n → y ∈ upsP t n → x = y) (by rw [upsP_none]; simp) (fun n hn ih => ?_) n hn
  have key : ∀ z, z ∈ upsP t (parN t n) → dep t z < dep t n := fun z hz => by
    rcases M.upsP_dep (.inr hn) (by rw [M.upsP_step hn]; exact List.mem_cons_of_mem _ hz) with h1 | h1
    · subst h1
      have h3 : (nd t z).kind ≠ 3 := fun h3 => by rw [M.par_3 hn h3, upsP_none] at hz; simp at hz
      have hd := M.dep_step hn
      rw [M.par_up hn h3] at hd
      rcases M.upsP_dep (M.parN_or hn) hz with h2 | h2
      · rw [← h2] at hd; omega
      · omega
    · exact h1
  rw [M.upsP_step hn, List.mem_cons, List.mem_cons]
  rintro (h1 | h1) (h2 | h2)
  · rw [h1, h2]
  · subst h1; have := key y h2; omega
  · subst h2; have := key x h1; omega
  · exact ih h1 h2
theorem May.upsP_trans {a b c : Int} (hc : c = -1 ∨ isN t c = true) (h1 : a ∈ upsP t b) (h2 : b ∈ upsP t c) : a ∈ upsP t c := by
  revert h2
  refine M.par_ind (P := fun c => b ∈ upsP t c → a ∈ upsP t c) (by rw [upsP_none]; simp) (fun n hn ih => ?_) c hc
  rw [M.upsP_step hn, List.mem_cons]
  rintro (rfl | h)
  · rw [← M.upsP_step hn]; exact h1
  · exact List.mem_cons_of_mem _ (ih h)
theorem May.upsP_self {n : Int} (hn : isN t n = true) : n ∈ upsP t n := by rw [M.upsP_step hn]; exact List.mem_cons_self
/-- A way down: who is in a node's list. -/
theorem May.mem_listIn {y : Int} : ∀ (f : Nat) (n : Int), isN t n = true → t.length < dep t n + f → (y ∈ listIn t f n ↔ isN t y = true ∧ n ∈ upsP t y)
  | 0, n, hn, hf => by have := M.dep_le hn; omega
  | f + 1, n, hn, hf => by
    rw [listIn, List.mem_cons, List.mem_flatMap]
    constructor
    · rintro (rfl | ⟨k, hk, hy⟩)
      · exact ⟨hn, M.upsP_self hn⟩
      · obtain ⟨h1, h2, h3⟩ := M.dep_kid hn hk
        obtain ⟨h4, h5⟩ := (May.mem_listIn f k h1 (by omega)).1 hy
        refine ⟨h4, M.upsP_trans (.inr h4) ?_ h5⟩
        rw [M.upsP_step h1, (M.kid hn hk).2.2.1]
        exact List.mem_cons_of_mem _ (M.upsP_self hn)
    · rintro ⟨h1, h2⟩
      by_cases hyn : y = n
      · exact .inl hyn
      · refine .inr ?_
        have key : ∀ z, (z = -1 ∨ isN t z = true) → n ∈ upsP t z → z = n ∨ ∃ k ∈ (nd t n).kids, k ∈ upsP t z := by
          refine M.par_ind (by rw [upsP_none]; simp) (fun z hz ih hm => ?_)
          rw [M.upsP_step hz, List.mem_cons] at hm
          rcases hm with rfl | hm
          · exact .inl rfl
          · refine .inr ?_
            rcases ih hm with h | ⟨k, hk, hkz⟩
            · refine ⟨z, ?_, M.upsP_self hz⟩
              have hne : parN t z ≠ -1 := by rw [h]; exact M.ne1 hn
              have := (M.par_mem hz hne).2
              rwa [h] at this
            · exact ⟨k, hk, by rw [M.upsP_step hz]; exact List.mem_cons_of_mem _ hkz⟩
        rcases key y (.inr h1) h2 with h | ⟨k, hk, hkz⟩
        · exact absurd h hyn
        · obtain ⟨h3, h4, h5⟩ := M.dep_kid hn hk
          exact ⟨k, hk, (May.mem_listIn f k h3 (by omega)).2 ⟨h1, hkz⟩⟩
theorem May.mem_listT {n y : Int} (hn : isN t n = true) : y ∈ listT t n ↔ isN t y = true ∧ n ∈ upsP t y := M.mem_listIn _ n hn (by omega)
theorem May.kids_nodup {n : Int} (hn : isN t n = true) : (nd t n).kids.Nodup := by
  rw [List.nodup_iff_count]
  intro y
  by_cases hy : y ∈ (nd t n).kids
  · have := (M.kid hn hy).2.1; omega
  · rw [List.count_eq_zero_of_not_mem hy]; omega
theorem May.nodup_listIn : ∀ (f : Nat) (n : Int), isN t n = true → t.length < dep t n + f → (listIn t f n).Nodup
  | 0, n, hn, hf => by have := M.dep_le hn; omega
  | f + 1, n, hn, hf => by
    rw [listIn, List.nodup_cons, List.mem_flatMap]
    refine ⟨?_, ?_⟩
    · rintro ⟨k, hk, hy⟩
      obtain ⟨h1, h2, h3⟩ := M.dep_kid hn hk
      have h4 := ((M.mem_listIn f k h1 (by omega)).1 hy).2
      rcases M.upsP_dep (.inr hn) h4 with h5 | h5
      · subst h5; omega
      · omega
    · rw [List.nodup_iff_pairwise_ne, List.pairwise_flatMap]
      refine ⟨fun k hk => ?_, ?_⟩
      · obtain ⟨h1, h2, h3⟩ := M.dep_kid hn hk
        exact May.nodup_listIn f k h1 (by omega)
      · refine List.Pairwise.imp_of_mem (fun {a b} ha hb hab x hx y hy hxy => ?_) (M.kids_nodup hn)
        subst hxy
        obtain ⟨h1, h2, h3⟩ := M.dep_kid hn ha
        obtain ⟨g1, g2, g3⟩ := M.dep_kid hn hb
        obtain ⟨e1, e2⟩ := (M.mem_listIn f a h1 (by omega)).1 hx
        obtain ⟨_, e3⟩ := (M.mem_listIn f b g1 (by omega)).1 hy
        exact hab (M.upsP_depth (.inr e1) e2 e3 (by omega))
theorem May.nodup_listT {n : Int} (hn : isN t n = true) : (listT t n).Nodup := M.nodup_listIn _ n hn (by omega)
theorem May.listT_le {n : Int} (hn : isN t n = true) : (listT t n).length ≤ t.length := nodup_isN (M.nodup_listT hn) fun x hx => ((M.mem_listT hn).1 hx).1
end
end Go.Proofs.Lime
namespace Go.Proofs.Lime
open Go.RowKit
set_option linter.unusedVariables false
set_option linter.unusedSimpArgs false
set_option linter.unusedSectionVars false

theorem May.topT_step {t : List Nd} (M : May t) {n : Int} (hn : isN t n = true) : topT t n = if parN t n = -1 then n else topT t (parN t n) := by
  unfold topT
  rw [M.upsP_step hn]
  split
  · rename_i h
    rw [h, upsP_none]; rfl
  · rename_i h
    have h1 := (M.parN_or hn).resolve_left h
    rw [M.upsP_step h1]
    rfl
theorem May.topT_isN {t : List Nd} (M : May t) {n : Int} (hn : isN t n = true) : isN t (topT t n) = true := by
  have h1 := M.upsP_step hn
  refine M.upsP_isN (.inr hn) ?_
  rw [topT, List.getLastD_eq_getLast?, List.getLast?_eq_some_getLast (by rw [h1]; simp)]
  exact List.getLast_mem _
/-- The host of a node's top; -1: none. -/
def hostT (t : List Nd) (n : Int) : Int := (nd t (topT t n)).host
def hostR (t : List Nd) (n : Int) : Int := if mayT t = true ∧ isN t n = true then hostT t n else -1
def upsS (t : List Nd) (n : Int) : List Int := if mayT t = true ∧ isN t n = true then upsT t n else []
section
variable {t : List Nd} (M : May t) {n : Int} (hn : isN t n = true)
include M hn
theorem May.host_par (h : parN t n ≠ -1) : hostT t n = hostT t (parN t n) := by
  unfold hostT; rw [M.topT_step hn, if_neg h]
theorem May.host_top (h : parN t n = -1) : hostT t n = (nd t n).host := by
  unfold hostT; rw [M.topT_step hn, if_pos h]
theorem May.host_or : hostT t n = -1 ∨ isN t (hostT t n) = true := by
  have ht := M.topT_isN hn
  unfold hostT
  by_cases h : (nd t (topT t n)).kind = 3
  · exact .inr (M.sh3 ht h).2.2.1
  · exact .inl (M.shn ht h).1
theorem May.ups_split : upsT t n = upsP t n ++ upsT t (hostT t n) := by
  refine M.par_ind (P := fun n => isN t n = true → upsT t n = upsP t n ++ upsT t (hostT t n)) (fun h => absurd rfl (M.ne1 h)) (fun n hn ih _ => ?_) n (.inr hn) hn
  rw [M.ups_step hn, M.upsP_step hn]
  by_cases hp : parN t n = -1
  · rw [M.host_top hn hp, hp, upsP_none]
    show n :: upsT t (upN t n) = n :: upsT t (nd t n).host
    congr 2
    rw [upN]
    split
    · rfl
    · rename_i h3
      rw [(M.shn hn h3).1]; exact hp
  · have h3 : (nd t n).kind ≠ 3 := fun h => hp (M.par_3 hn h)
    rw [M.par_up hn h3, M.host_par hn hp, List.cons_append, ← ih ((M.parN_or hn).resolve_left hp)]
theorem May.dep_host (h : hostT t n ≠ -1) : dep t (hostT t n) < dep t n := by
  have h1 := M.ups_split hn
  have h2 := congrArg List.length h1
  rw [List.length_append, M.upsP_step hn] at h2
  simp only [List.length_cons] at h2
  unfold dep; omega
end
/-- What is told of a to somebody above whom just 'holds' are. -/
def retIn (t : List Nd) (holds : List Int) : Nat → Int → Int
  | 0, a => a
  | f + 1, a => if hostT t a ≠ -1 ∧ (nd t (hostT t a)).root ∉ holds then retIn t holds f (hostT t a) else a
def retT (t : List Nd) (a b : Int) : Int := retIn t (upsT t b) (t.length + 1) a
def retR (t : List Nd) (a b : Int) : Int := if (mayT t && (isN t a && isN t b)) = true then retT t a b else -1
theorem May.retIn_more {t : List Nd} (M : May t) (holds : List Int) : ∀ (f : Nat) (a : Int), isN t a = true → dep t a ≤ f → ∀ g, f ≤ g → retIn t holds g a = retIn t holds f a
  | 0, a, ha, hf, g, hg => by rw [M.dep_step ha] at hf; omega
  | f + 1, a, ha, hf, 0, hg => by omega
  | f + 1, a, ha, hf, g + 1, hg => by
    rw [retIn, retIn]
    split
    · rename_i h
      have := M.dep_host ha h.1
      exact May.retIn_more M holds f _ ((M.host_or ha).resolve_left h.1) (by omega) g (by omega)
    · rfl
theorem May.retT_step {t : List Nd} (M : May t) {a : Int} (ha : isN t a = true) (holds : List Int) : retIn t holds (t.length + 1) a = if hostT t a ≠ -1 ∧ (nd t (hostT t a)).root ∉ holds then retIn t holds (t.length + 1) (hostT t a) else a := by
  rw [retIn]
  split
  · rename_i h
    have h1 := M.dep_host ha h.1
    have h2 := M.dep_le ha
    exact (M.retIn_more holds _ _ ((M.host_or ha).resolve_left h.1) (by omega) _ (by omega)).symm
  · rfl
end Go.Proofs.Lime
namespace Go.Proofs.Lime
open Go.RowKit
set_option linter.unusedVariables false
set_option linter.unusedSimpArgs false
set_option linter.unusedSectionVars false

/-- ok: the nodes; s: one step up (-1: nobody); ch: those one step below; d: how deep, at most B. -/
structure Forest (ok : Int → Prop) (s : Int → Int) (ch : Int → List Int) (d : Int → Nat) (B : Nat) : Prop where mk ::
  neg : ¬ ok (-1)
  up : ∀ n, ok n → s n = -1 ∨ ok (s n)
  pos : ∀ n, ok n → 1 ≤ d n
  dep : ∀ n, ok n → s n ≠ -1 → d n = d (s n) + 1
  bound : ∀ n, ok n → d n ≤ B
  chi : ∀ n y, ok n → (y ∈ ch n ↔ ok y ∧ s y = n)
  nodup : ∀ n, ok n → (ch n).Nodup
/-- A node and all below it, at most f deep. -/
def preIn (ch : Int → List Int) : Nat → Int → List Int
  | 0, _ => []
  | f + 1, n => n :: (ch n).flatMap (preIn ch f)
section
variable {ok : Int → Prop} {s : Int → Int} {ch : Int → List Int} {d : Int → Nat} {B : Nat} (F : Forest ok s ch d B)
include F
theorem Forest.ne1 {n : Int} (hn : ok n) : n ≠ -1 := by rintro rfl; exact F.neg hn
theorem Forest.ind {P : Int → Prop} (h0 : P (-1)) (h : ∀ n, ok n → P (s n) → P n) : ∀ n, (n = -1 ∨ ok n) → P n := by
  have key : ∀ k n, (n = -1 ∨ ok n) → (n ≠ -1 → d n ≤ k) → P n := by
    intro k
    induction k with
    | zero =>
      rintro n (rfl | hn) hd
      · exact h0
      · have := F.pos n hn; have := hd (F.ne1 hn); omega
    | succ k ih =>
      rintro n (rfl | hn) hd
      · exact h0
      · refine h n hn (ih _ (F.up n hn) (fun hs => ?_))
        have := F.dep n hn hs; have := hd (F.ne1 hn); omega
  exact fun n hn => key (d n) n hn (fun _ => Nat.le_refl _)
theorem Forest.len : ∀ (f : Nat) (n : Int), (n = -1 ∨ ok n) → n = -1 ∨ (chainIn s f n).length ≤ d n
  | 0, n, hn => hn.imp id (fun _ => by simp [chainIn])
  | f + 1, n, hn => by
    rcases hn with h | hn
    · exact .inl h
    · refine .inr ?_
      rw [chain_step (F.ne1 hn)]
      by_cases hs : s n = -1
      · rw [hs, chain_nil]; exact F.pos n hn
      · have := (Forest.len f (s n) (F.up n hn)).resolve_left hs
        have := F.dep n hn hs
        simp; omega
theorem Forest.up_le {n : Int} (hn : ok n) : (chainIn s (B + 1) n).length ≤ d n := (F.len (B + 1) n (.inr hn)).resolve_left (F.ne1 hn)
theorem Forest.up_step {n : Int} (hn : ok n) : chainIn s (B + 1) n = n :: chainIn s (B + 1) (s n) := by
  have h1 := F.up_le hn
  have h2 := F.bound n hn
  rw [chain_step (F.ne1 hn)] at h1 ⊢
  congr 1
  symm
  apply chain_more _ _ (by omega)
  simp at h1
  omega
theorem Forest.self {n : Int} (hn : ok n) : n ∈ chainIn s (B + 1) n := by rw [F.up_step hn]; exact List.mem_cons_self
theorem Forest.up_ok {n x : Int} (hn : n = -1 ∨ ok n) (hx : x ∈ chainIn s (B + 1) n) : ok x := by
  revert hx
  refine F.ind (P := fun n => x ∈ chainIn s (B + 1) n → ok x) (by rw [chain_nil]; simp) (fun n hn ih => ?_) n hn
  rw [F.up_step hn, List.mem_cons]
  rintro (rfl | h)
  · exact hn
  · exact ih h
theorem Forest.up_dep {n x : Int} (hn : n = -1 ∨ ok n) (hx : x ∈ chainIn s (B + 1) n) : x = n ∨ d x < d n := by
  revert hx
  refine F.ind (P := fun n => x ∈ chainIn s (B + 1) n → x = n ∨ d x < d n) (by rw [chain_nil]; simp) (fun n hn ih => ?_) n hn
  rw [F.up_step hn, List.mem_cons]
  rintro (h | h)
  · exact .inl h
  · refine .inr ?_
    have hs : s n ≠ -1 := fun e => by rw [e, chain_nil] at h; simp at h
    have hd := F.dep n hn hs
    rcases ih h with h1 | h1
    · rw [h1]; omega
    · omega
theorem Forest.above_dep {n x : Int} (hn : ok n) (hx : x ∈ chainIn s (B + 1) (s n)) : d x < d n := by
  have hs : s n ≠ -1 := fun e => by rw [e, chain_nil] at hx; simp at hx
  have hd := F.dep n hn hs
  rcases F.up_dep (F.up n hn) hx with h1 | h1
  · rw [h1]; omega
  · omega
theorem Forest.up_depth {n x y : Int} (hn : n = -1 ∨ ok n) (hx : x ∈ chainIn s (B + 1) n) (hy : y ∈ chainIn s (B + 1) n) (h : d x = d y) : x = y := by
  revert hx hy
  refine F.ind (P := fun n => x ∈ chainIn s (B + 1) n → y ∈ chainIn s (B + 1) n → x = y) (by rw [chain_nil]; simp) (fun n hn ih => ?_) n hn
  rw [F.up_step hn, List.mem_cons, List.mem_cons]
  rintro (h1 | h1) (h2 | h2)
  · rw [h1, h2]
  · subst h1; have := F.above_dep hn h2; omega
  · subst h2; have := F.above_dep hn h1; omega
  · exact ih h1 h2
theorem Forest.up_trans {a b c : Int} (hc : c = -1 ∨ ok c) (h1 : a ∈ chainIn s (B + 1) b) (h2 : b ∈ chainIn s (B + 1) c) : a ∈ chainIn s (B + 1) c := by
  revert h2
  refine F.ind (P := fun c => b ∈ chainIn s (B + 1) c → a ∈ chainIn s (B + 1) c) (by rw [chain_nil]; simp) (fun n hn ih => ?_) c hc
  rw [F.up_step hn, List.mem_cons]
  rintro (rfl | h)
  · rw [← F.up_step hn]; exact h1
  · exact List.mem_cons_of_mem _ (ih h)
/-- Two that are above one node: one is above the other. -/
theorem Forest.up_two {a b c : Int} (hc : c = -1 ∨ ok c) (h1 : a ∈ chainIn s (B + 1) c) (h2 : b ∈ chainIn s (B + 1) c) : a ∈ chainIn s (B + 1) b ∨ b ∈ chainIn s (B + 1) a := by
  revert h1 h2
  refine F.ind (P := fun c => a ∈ chainIn s (B + 1) c → b ∈ chainIn s (B + 1) c → a ∈ chainIn s (B + 1) b ∨ b ∈ chainIn s (B + 1) a) (by rw [chain_nil]; simp) (fun n hn ih => ?_) c hc
  intro h1 h2
  have e := F.up_step hn
  have h1' := h1
  have h2' := h2
  rw [e, List.mem_cons] at h1 h2
  rcases h1 with h1 | h1
  · subst h1; exact .inr h2'
  · rcases h2 with h2 | h2
    · subst h2; exact .inl h1'
    · exact ih h1 h2
theorem Forest.up_anti {a b : Int} (hb : ok b) (h1 : a ∈ chainIn s (B + 1) b) (h2 : b ∈ chainIn s (B + 1) a) : a = b := by
  rcases F.up_dep (.inr hb) h1 with h | h
  · exact h
  · rcases F.up_dep (.inr (F.up_ok (.inr hb) h1)) h2 with h' | h'
    · exact h'.symm
    · omega
theorem Forest.kid {n y : Int} (hn : ok n) (hy : y ∈ ch n) : ok y ∧ s y = n ∧ d y = d n + 1 := by
  obtain ⟨h1, h2⟩ := (F.chi n y hn).1 hy
  exact ⟨h1, h2, by rw [F.dep y h1 (by rw [h2]; exact F.ne1 hn), h2]⟩
theorem Forest.mem_preIn {y : Int} : ∀ (f : Nat) (n : Int), ok n → B < d n + f → (y ∈ preIn ch f n ↔ ok y ∧ n ∈ chainIn s (B + 1) y)
  | 0, n, hn, hf => by have := F.bound n hn; omega
  | f + 1, n, hn, hf => by
    rw [preIn, List.mem_cons, List.mem_flatMap]
    constructor
    · rintro (rfl | ⟨k, hk, hy⟩)
      · exact ⟨hn, F.self hn⟩
      · obtain ⟨h1, h2, h3⟩ := F.kid hn hk
        obtain ⟨h4, h5⟩ := (Forest.mem_preIn f k h1 (by omega)).1 hy
        refine ⟨h4, F.up_trans (.inr h4) ?_ h5⟩
        rw [F.up_step h1, h2]
        exact List.mem_cons_of_mem _ (F.self hn)
    · rintro ⟨h1, h2⟩
      by_cases hyn : y = n
      · exact .inl hyn
      · refine .inr ?_
        have key : ∀ z, (z = -1 ∨ ok z) → n ∈ chainIn s (B + 1) z → z = n ∨ ∃ k ∈ ch n, k ∈ chainIn s (B + 1) z := by
          refine F.ind (by rw [chain_nil]; simp) (fun z hz ih hm => ?_)
          rw [F.up_step hz, List.mem_cons] at hm
          rcases hm with rfl | hm
          · exact .inl rfl
          · refine .inr ?_
            rcases ih hm with h | ⟨k, hk, hkz⟩
            · exact ⟨z, (F.chi n z hn).2 ⟨hz, h⟩, F.self hz⟩
            · exact ⟨k, hk, by rw [F.up_step hz]; exact List.mem_cons_of_mem _ hkz⟩
        rcases key y (.inr h1) h2 with h | ⟨k, hk, hkz⟩
        · exact absurd h hyn
        · obtain ⟨h3, h4, h5⟩ := F.kid hn hk
          exact ⟨k, hk, (Forest.mem_preIn f k h3 (by omega)).2 ⟨h1, hkz⟩⟩
theorem Forest.nodup_preIn : ∀ (f : Nat) (n : Int), ok n → B < d n + f → (preIn ch f n).Nodup
  | 0, n, hn, hf => by have := F.bound n hn; omega
  | f + 1, n, hn, hf => by
    rw [preIn, List.nodup_cons, List.mem_flatMap]
    refine ⟨?_, ?_⟩
    · rintro ⟨k, hk, hy⟩
      obtain ⟨h1, h2, h3⟩ := F.kid hn hk
      have h4 := ((F.mem_preIn f k h1 (by omega)).1 hy).2
      rcases F.up_dep (.inr hn) h4 with h5 | h5
      · subst h5; omega
      · omega
    · rw [List.nodup_iff_pairwise_ne, List.pairwise_flatMap]
      refine ⟨fun k hk => ?_, ?_⟩
      · obtain ⟨h1, h2, h3⟩ := F.kid hn hk
        exact Forest.nodup_preIn f k h1 (by omega)
      · refine List.Pairwise.imp_of_mem (fun {a b} ha hb hab x hx y hy hxy => ?_) (F.nodup n hn)
        subst hxy
        obtain ⟨h1, h2, h3⟩ := F.kid hn ha
        obtain ⟨g1, g2, g3⟩ := F.kid hn hb
        obtain ⟨e1, e2⟩ := (F.mem_preIn f a h1 (by omega)).1 hx
        obtain ⟨_, e3⟩ := (F.mem_preIn f b g1 (by omega)).1 hy
        exact hab (F.up_depth (.inr e1) e2 e3 (by omega))
theorem Forest.preIn_more : ∀ (f : Nat) (n : Int), ok n → B < d n + f → ∀ g, f ≤ g → preIn ch g n = preIn ch f n
  | 0, n, hn, hf, g, hg => by have := F.bound n hn; omega
  | f + 1, n, hn, hf, 0, hg => by omega
  | f + 1, n, hn, hf, g + 1, hg => by
    rw [preIn, preIn]
    congr 1
    apply flatMap_eq
    intro y hy
    obtain ⟨h1, h2, h3⟩ := F.kid hn hy
    exact Forest.preIn_more f y h1 (by omega) g (by omega)
theorem Forest.pre_step {n : Int} (hn : ok n) : preIn ch (B + 1) n = n :: (ch n).flatMap (preIn ch (B + 1)) := by
  have hd := F.pos n hn
  rw [preIn]
  congr 1
  apply flatMap_eq
  intro y hy
  obtain ⟨h1, h2, h3⟩ := F.kid hn hy
  exact (F.preIn_more _ y h1 (by omega) _ (by omega)).symm
theorem Forest.mem_pre {n y : Int} (hn : ok n) : y ∈ preIn ch (B + 1) n ↔ ok y ∧ n ∈ chainIn s (B + 1) y := F.mem_preIn _ n hn (by omega)
theorem Forest.nodup_pre {n : Int} (hn : ok n) : (preIn ch (B + 1) n).Nodup := F.nodup_preIn _ n hn (by omega)
end

/-- Those one step below a node, its shadow first. -/
def chS (t : List Nd) (n : Int) : List Int := (if (nd t n).root = -1 then [] else [(nd t n).root]) ++ (nd t n).kids
theorem May.shade {t : List Nd} (M : May t) : Forest (fun n => isN t n = true) (upN t) (chS t) (dep t) t.length where
  neg := fun h => M.ne1 h rfl
  up := fun n hn => M.up hn
  pos := fun n hn => by rw [M.dep_step hn]; omega
  dep := fun n hn _ => M.dep_step hn
  bound := fun n hn => M.dep_le hn
  chi := fun n y hn => by
    unfold chS
    rw [List.mem_append]
    constructor
    · rintro (h | h)
      · split at h
        · simp at h
        · rename_i hr
          obtain rfl := List.mem_singleton.1 h
          obtain ⟨h1, h2, _⟩ := M.dep_root hn rfl hr
          exact ⟨h1, h2⟩
      · obtain ⟨h1, h2, _⟩ := M.dep_kid hn h
        exact ⟨h1, h2⟩
    · rintro ⟨hy, hu⟩
      rw [upN] at hu
      split at hu
      · rename_i h3
        obtain ⟨_, _, _, _, h4⟩ := M.sh3 hy h3
        rw [hu] at h4
        refine .inl ?_
        rw [if_neg (by rw [h4]; exact M.ne1 hy), h4]
        simp
      · have hp : parN t y = n := hu
        refine .inr ?_
        have := (M.par_mem hy (by rw [hp]; exact M.ne1 hn)).2
        rwa [hp] at this
  nodup := fun n hn => by
    unfold chS
    split
    · simpa using M.kids_nodup hn
    · rename_i hr
      rw [List.singleton_append, List.nodup_cons]
      refine ⟨fun h => ?_, M.kids_nodup hn⟩
      obtain ⟨_, _, h3, _⟩ := M.root hn rfl hr
      rcases (M.kid hn h).2.2.2 with h4 | h4 <;> omega
def listS (t : List Nd) (n : Int) : List Int := preIn (chS t) (t.length + 1) n
end Go.Proofs.Lime
namespace Go.Proofs.Lime
open Go.RowKit
set_option linter.unusedVariables false
set_option linter.unusedSimpArgs false
set_option linter.unusedSectionVars false

section
variable {t : List Nd} (M : May t)
include M
theorem May.topT_mem {n : Int} (hn : isN t n = true) : topT t n ∈ upsP t n := by
  have h1 := M.upsP_step hn
  rw [topT, List.getLastD_eq_getLast?, List.getLast?_eq_some_getLast (by rw [h1]; simp)]
  exact List.getLast_mem _
theorem May.topT_above {n : Int} (hn : isN t n = true) : topT t n ∈ upsT t n := by
  rw [M.ups_split hn]; exact List.mem_append_left _ (M.topT_mem hn)
theorem May.hostT_above {n : Int} (hn : isN t n = true) (h : hostT t n ≠ -1) : hostT t n ∈ upsT t n := by
  rw [M.ups_split hn]
  exact List.mem_append_right _ (M.shade.self ((M.host_or hn).resolve_left h))
theorem May.hostT_root {n : Int} (hn : isN t n = true) (h : hostT t n ≠ -1) : (nd t (hostT t n)).root = topT t n := by
  have ht := M.topT_isN hn
  unfold hostT at h ⊢
  by_cases h3 : (nd t (topT t n)).kind = 3
  · exact (M.sh3 ht h3).2.2.2.2
  · exact absurd (M.shn ht h3).1 h
theorem May.par_0 : isN t 0 = true ∧ upN t 0 = -1 := by
  have h0 : isN t 0 = true := by have := M.len1; rw [isN_iff]; omega
  have hk := M.kinds h0
  have h3 : (nd t 0).kind ≠ 3 := by have := hk.2.2.2 rfl; omega
  refine ⟨h0, ?_⟩
  rw [M.par_up h0 h3]
  by_cases hp : parN t 0 = -1
  · exact hp
  · obtain ⟨h1, h2⟩ := M.par_mem h0 hp
    have := hk.2.2.2 rfl
    rcases (M.kid h1 h2).2.2.2 with h | h <;> omega
theorem May.ups_0 : upsT t 0 = [0] := by
  obtain ⟨h0, hu⟩ := M.par_0
  rw [M.ups_step h0, hu, upsT_none]
/-- Induction along hosts. -/
theorem May.host_ind {P : Int → Prop} (h : ∀ a, isN t a = true → (hostT t a ≠ -1 → P (hostT t a)) → P a) : ∀ a, isN t a = true → P a := by
  have key : ∀ d a, isN t a = true → dep t a ≤ d → P a := by
    intro d
    induction d with
    | zero => intro a ha hd; rw [M.dep_step ha] at hd; omega
    | succ d ih =>
      intro a ha hd
      refine h a ha fun hh => ih _ ((M.host_or ha).resolve_left hh) ?_
      have := M.dep_host ha hh; omega
  exact fun a ha => key _ a ha (Nat.le_refl _)
theorem May.ret_isN (holds : List Int) : ∀ a, isN t a = true → isN t (retIn t holds (t.length + 1) a) = true := by
  refine M.host_ind fun a ha ih => ?_
  rw [M.retT_step ha]
  split
  · rename_i h; exact ih h.1
  · exact ha
theorem May.ret_above (holds : List Int) : ∀ a, isN t a = true → retIn t holds (t.length + 1) a ∈ upsT t a := by
  refine M.host_ind fun a ha ih => ?_
  rw [M.retT_step ha]
  split
  · rename_i h
    exact M.shade.up_trans (.inr ha) (ih h.1) (M.hostT_above ha h.1)
  · exact M.shade.self ha
theorem May.ret_stop (holds : List Int) : ∀ a, isN t a = true → ¬ (hostT t (retIn t holds (t.length + 1) a) ≠ -1 ∧ (nd t (hostT t (retIn t holds (t.length + 1) a))).root ∉ holds) := by
  refine M.host_ind fun a ha ih => ?_
  rw [M.retT_step ha]
  split
  · rename_i h; exact ih h.1
  · rename_i h; exact h
theorem May.ret_idem (holds : List Int) (a : Int) (ha : isN t a = true) : retIn t holds (t.length + 1) (retIn t holds (t.length + 1) a) = retIn t holds (t.length + 1) a := by
  rw [M.retT_step (M.ret_isN holds a ha), if_neg (M.ret_stop holds a ha)]
theorem May.ret_root (holds : List Int) : ∀ a, isN t a = true → retIn t holds (t.length + 1) a = a ∨ (nd t (retIn t holds (t.length + 1) a)).root ≠ -1 := by
  refine M.host_ind fun a ha ih => ?_
  rw [M.retT_step ha]
  split
  · rename_i h
    refine .inr ?_
    rcases ih h.1 with h1 | h1
    · rw [h1, M.hostT_root ha h.1]; exact M.ne1 (M.topT_isN ha)
    · exact h1
  · exact .inl rfl
theorem May.ret_self {a : Int} (ha : isN t a = true) : retT t a a = a := by
  unfold retT
  rw [M.retT_step ha, if_neg]
  rintro ⟨h1, h2⟩
  rw [M.hostT_root ha h1] at h2
  exact h2 (M.topT_above ha)
theorem May.ret_ret {h1 h2 : List Int} (hs : ∀ x, x ∈ h2 → x ∈ h1) : ∀ a, isN t a = true → retIn t h2 (t.length + 1) (retIn t h1 (t.length + 1) a) = retIn t h2 (t.length + 1) a := by
  refine M.host_ind fun a ha ih => ?_
  by_cases h : hostT t a ≠ -1 ∧ (nd t (hostT t a)).root ∉ h1
  · rw [M.retT_step ha h1, if_pos h, ih h.1, M.retT_step ha h2, if_pos ⟨h.1, fun hm => h.2 (hs _ hm)⟩]
  · rw [M.retT_step ha h1, if_neg h]
end
end Go.Proofs.Lime
namespace Go.Proofs.Lime
open Go.RowKit
set_option linter.unusedVariables false
set_option linter.unusedSimpArgs false
set_option linter.unusedSectionVars false

section
variable {t : List Nd} (M : May t)
include M
theorem May.root_top {r : Int} (hr : parN t r = -1) {n : Int} (hn : isN t n = true) : r ∈ upsP t n → topT t n = r := by
  refine M.par_ind (P := fun n => isN t n = true → r ∈ upsP t n → topT t n = r) (fun h => absurd rfl (M.ne1 h)) (fun n hn ih _ h => ?_) n (.inr hn) hn
  rw [M.upsP_step hn] at h
  rw [M.topT_step hn]
  by_cases hp : parN t n = -1
  · rw [if_pos hp]
    rw [hp, upsP_none] at h
    exact (List.mem_singleton.1 h).symm
  · rw [if_neg hp]
    rcases List.mem_cons.1 h with h1 | h1
    · exact absurd (h1 ▸ hr) hp
    · exact ih ((M.parN_or hn).resolve_left hp) h1
theorem May.ret_keeps {r : Int} (hrN : isN t r = true) (hr : parN t r = -1) : ∀ x, isN t x = true → r ∈ upsT t x → r ∈ upsT t (retIn t (upsT t r) (t.length + 1) x) := by
  refine M.host_ind (P := fun x => r ∈ upsT t x → r ∈ upsT t (retIn t (upsT t r) (t.length + 1) x)) fun x hx ih h => ?_
  rw [M.retT_step hx]
  split
  · rename_i hc
    refine ih hc.1 ?_
    rw [M.ups_split hx] at h
    rcases List.mem_append.1 h with h1 | h1
    · exfalso
      have h2 := hc.2
      rw [M.hostT_root hx hc.1, M.root_top hr hx h1] at h2
      exact h2 (M.shade.self hrN)
    · exact h1
  · exact h
/-- In a root is who is told of somebody to it, just where it holds him. -/
theorem May.act_key {f r : Int} (hf : isN t f = true) (hrN : isN t r = true) (hk : (nd t r).kind = 0 ∨ (nd t r).kind = 3) :
    (retT t f r ≠ r ∧ topT t (retT t f r) = r) ↔ (r ∈ upsT t f ∧ f ≠ r) := by
  have ha : isN t (retT t f r) = true := M.ret_isN _ f hf
  have hroot : (nd t r).root = -1 := by
    rcases hk with h | h
    · exact Classical.byContradiction fun hn => by
        obtain ⟨h1, _⟩ := M.dep_root hrN rfl hn
        have := (M.parts hrN).2.2.2
        rw [shadowOk, if_neg (by omega)] at this
        simp only [Bool.and_eq_true, Bool.or_eq_true, decide_eq_true_eq] at this
        rcases this.2 with h2 | h2
        · exact hn h2
        · omega
    · exact (M.sh3 hrN h).1
  have hpar : parN t r = -1 := by
    rcases hk with h | h
    · have h0 : r = 0 := ((M.kinds hrN).2.2).1 h
      have := M.par_0.2
      rw [h0] at h ⊢
      rw [M.par_up M.par_0.1 (by omega)] at this
      exact this
    · exact M.par_3 hrN h
  constructor
  · rintro ⟨h1, h2⟩
    have h3 := M.topT_above ha
    rw [h2] at h3
    refine ⟨M.shade.up_trans (.inr hf) h3 (M.ret_above _ f hf), ?_⟩
    rintro rfl
    exact h1 (M.ret_self hf)
  · rintro ⟨h, hne⟩
    have hra : r ∈ upsT t (retT t f r) := M.ret_keeps hrN hpar f hf h
    refine ⟨fun e => ?_, ?_⟩
    · rcases M.ret_root (upsT t r) f hf with h1 | h1
      · exact hne (h1.symm.trans e)
      · exact h1 (by rw [show retIn t (upsT t r) (t.length + 1) f = r from e]; exact hroot)
    · rw [M.ups_split ha] at hra
      rcases List.mem_append.1 hra with h1 | h1
      · exact M.root_top hpar ha h1
      · have hh : hostT t (retT t f r) ≠ -1 := by
          intro e
          rw [e, upsT_none] at h1
          cases h1
        have hst := M.ret_stop (upsT t r) f hf
        have hin : topT t (retT t f r) ∈ upsT t r := Classical.byContradiction fun hn => hst ⟨hh, by
          rw [show retIn t (upsT t r) (t.length + 1) f = retT t f r from rfl, M.hostT_root ha hh]; exact hn⟩
        have htN := M.topT_isN ha
        rcases M.shade.up_dep (.inr hrN) hin with e | h2
        · exact e
        · have h3 : (nd t (topT t (retT t f r))).kind = 3 := Classical.byContradiction fun hn => hh (M.shn htN hn).1
          have hup : upN t (topT t (retT t f r)) = hostT t (retT t f r) := by
            unfold upN hostT
            rw [if_pos h3]
          have h4 := M.dep_step htN
          rw [hup] at h4
          have hhN := (M.host_or ha).resolve_left hh
          rcases M.shade.up_dep (.inr hhN) h1 with e | h5
          · have h6 := congrArg (dep t) e
            omega
          · omega
end
end Go.Proofs.Lime
namespace Go.Proofs.Lime
open Go.RowKit
set_option linter.unusedVariables false
set_option linter.unusedSimpArgs false
set_option linter.unusedSectionVars false

/-- The value of the first attribute of a name. -/
def attrOf (ats : List Attr) (name : Int) : Option Int := (ats.find? fun a => a.name == name).map Attr.value
def attrT (t : List Nd) (n name : Int) : Option Int := attrOf (nd t n).attrs name
def attrR (t : List Nd) (n name : Int) : Option Int := if mayT t = true ∧ isN t n = true then attrT t n name else none
def nameT (t : List Nd) (n : Int) : Int := (attrT t n 4).getD 0
def slotB (t : List Nd) (n : Int) : Bool := decide ((nd t n).kind = 1) && (decide ((nd t n).tag = 3) && decide (hostT t n ≠ -1))
/-- The slots below a root. -/
def slotsT (t : List Nd) (r : Int) : List Int := (listT t r).filter (slotB t)
def allR (t : List Nd) (r : Int) : List Int := if (mayT t && (isN t r && decide ((nd t r).kind = 3))) = true then slotsT t r else []
/-- The shadow of a node's parent. -/
def overT (t : List Nd) (n : Int) : Int := if parN t n = -1 then -1 else (nd t (parN t n)).root
def overR (t : List Nd) (n : Int) : Int := if mayT t = true ∧ isN t n = true then overT t n else -1
/-- Is a slot one into which who chose 'at', and is called 'mine', is laid? -/
def fitB (t : List Nd) (man : Bool) (chosen : Option Int) (mine : Int) (s : Int) : Bool := if man = true then chosen == some s else nameT t s == mine
def fstOf (p : Int → Bool) (l : List Int) : Int := (l.find? p).getD (-1)
def ofT (t : List Nd) (n : Int) : Int := if overT t n = -1 then -1 else fstOf (fitB t (attrT t (overT t n) 8).isSome (attrT t n 9) (nameT t n)) (slotsT t (overT t n))
def ofR (t : List Nd) (n : Int) : Int := if mayT t = true ∧ isN t n = true then ofT t n else -1
/-- Those who are laid into a slot. -/
def asgT (t : List Nd) (s : Int) : List Int := if slotB t s = true then (nd t (hostT t s)).kids.filter (fun k => ofT t k == s) else []
def asgR (t : List Nd) (s : Int) : List Int := if mayT t = true ∧ isN t s = true then asgT t s else []

theorem fstOf_cons (p : Int → Bool) (x : Int) (l : List Int) : fstOf p (x :: l) = if p x = true then x else fstOf p l := by
  unfold fstOf
  rw [List.find?_cons]
  cases p x <;> simp
theorem fstOf_nil (p : Int → Bool) : fstOf p [] = -1 := rfl
theorem fstOf_mem {p : Int → Bool} {l : List Int} (h : fstOf p l ≠ -1) : fstOf p l ∈ l ∧ p (fstOf p l) = true := by
  unfold fstOf at *
  cases hf : l.find? p with
  | none => rw [hf] at h; exact absurd rfl h
  | some x => rw [Option.getD_some]; exact ⟨List.mem_of_find?_eq_some hf, List.find?_some hf⟩
theorem fstOf_congr {p q : Int → Bool} {l : List Int} (h : ∀ x ∈ l, p x = q x) : fstOf p l = fstOf q l := by
  induction l with
  | nil => rfl
  | cons x l ih =>
    rw [fstOf_cons, fstOf_cons, h x List.mem_cons_self, ih fun y hy => h y (List.mem_cons_of_mem _ hy)]
/-- Who stands ahead of the first one is none. -/
theorem fstOf_first {p : Int → Bool} : ∀ {l : List Int}, l.Nodup → ∀ {i k : Nat} (hi : i < l.length) (hk : k < i), fstOf p l = l[i] → l[i] ≠ -1 → p (l[k]'(Nat.lt_trans hk hi)) = false
  | [], _, i, k, hi, _, _, _ => by simp at hi
  | x :: l, hd, i, k, hi, hk, h, hn => by
    rw [fstOf_cons] at h
    obtain ⟨i, rfl⟩ : ∃ j, i = j + 1 := ⟨i - 1, by omega⟩
    have hi' : i < l.length := by simpa using hi
    rw [List.getElem_cons_succ] at h hn
    by_cases hx : p x = true
    · rw [if_pos hx] at h
      exact absurd (h ▸ List.getElem_mem hi') (List.nodup_cons.1 hd).1
    · rw [if_neg hx] at h
      cases k with
      | zero => simpa using hx
      | succ k => rw [List.getElem_cons_succ]; exact fstOf_first (List.nodup_cons.1 hd).2 hi' (by omega) h hn

theorem attrsFrom_text (x : Nd) (hk : x.kind = 2) (last : Int) (ats : List Attr) (h : attrsFrom x.kind last ats = true) : ats = [] := by
  cases ats with
  | nil => rfl
  | cons a ats =>
    rw [attrsFrom, hk] at h
    simp [attrOk] at h
theorem sub_self (t : List Nd) : ∀ (M : May t) {n : Int} (hn : isN t n = true), [n].Sublist (listT t n) := fun M n hn => by
  rw [M.listT_step hn]; exact List.Sublist.cons_cons _ (List.nil_sublist _)
theorem flatMap_sub {α : Type} {f : α → List α} : ∀ {l : List α}, (∀ x ∈ l, [x].Sublist (f x)) → l.Sublist (l.flatMap f)
  | [], _ => List.Sublist.slnil
  | x :: l, h => by
    rw [List.flatMap_cons]
    have h1 := h x List.mem_cons_self
    have h2 := flatMap_sub (fun y hy => h y (List.mem_cons_of_mem _ hy)) (f := f) (l := l)
    exact (List.Sublist.append h1 h2 : ([x] ++ l).Sublist (f x ++ l.flatMap f))
theorem mem_flatMap_sub {α β : Type} {f : α → List β} : ∀ {l : List α} {x : α}, x ∈ l → (f x).Sublist (l.flatMap f)
  | [], _, h => by simp at h
  | y :: l, x, h => by
    rw [List.flatMap_cons]
    rcases List.mem_cons.1 h with rfl | h
    · exact List.sublist_append_left _ _
    · exact List.Sublist.trans (mem_flatMap_sub h) (List.sublist_append_right _ _)
section
variable {t : List Nd} (M : May t)
include M
theorem May.slot_in {r s : Int} (hr : isN t r = true) (hs : s ∈ slotsT t r) : isN t s = true ∧ r ∈ upsP t s ∧ slotB t s = true := by
  obtain ⟨h1, h2⟩ := List.mem_filter.1 hs
  obtain ⟨h3, h4⟩ := (M.mem_listT hr).1 h1
  exact ⟨h3, h4, h2⟩
theorem May.over_root {n : Int} (hn : isN t n = true) (h : overT t n ≠ -1) : parN t n ≠ -1 ∧ isN t (parN t n) = true ∧ n ∈ (nd t (parN t n)).kids ∧ (nd t (parN t n)).root = overT t n ∧ isN t (overT t n) = true ∧ (nd t (overT t n)).kind = 3 ∧ (nd t (overT t n)).host = parN t n ∧ parN t (overT t n) = -1 := by
  have hp : parN t n ≠ -1 := fun e => h (if_pos e)
  obtain ⟨h1, h2⟩ := M.par_mem hn hp
  have h3 : (nd t (parN t n)).root = overT t n := by rw [overT, if_neg hp]
  obtain ⟨_, h4, h5, h6⟩ := M.root h1 h3 h
  exact ⟨hp, h1, h2, h3, h4, h5, h6, M.par_3 h4 h5⟩
/-- Where a node's slot stands. -/
theorem May.of_slot {n : Int} (hn : isN t n = true) (h : ofT t n ≠ -1) : overT t n ≠ -1 ∧ ofT t n ∈ slotsT t (overT t n) ∧ isN t (ofT t n) = true ∧ topT t (ofT t n) = overT t n ∧ hostT t (ofT t n) = parN t n ∧ slotB t (ofT t n) = true := by
  have ho : overT t n ≠ -1 := fun e => h (if_pos e)
  obtain ⟨hp, h1, h2, h3, h4, h5, h6, h7⟩ := M.over_root hn ho
  have e : ofT t n = fstOf (fitB t (attrT t (overT t n) 8).isSome (attrT t n 9) (nameT t n)) (slotsT t (overT t n)) := if_neg ho
  have hm : ofT t n ∈ slotsT t (overT t n) := by rw [e] at h ⊢; exact (fstOf_mem h).1
  obtain ⟨h8, h9, h10⟩ := M.slot_in h4 hm
  have ht := M.root_top h7 h8 h9
  exact ⟨ho, hm, h8, ht, by rw [hostT, ht]; exact h6, h10⟩
theorem May.mem_asg {s n : Int} (hs : isN t s = true) : n ∈ asgT t s ↔ isN t n = true ∧ ofT t n = s := by
  constructor
  · intro h
    unfold asgT at h
    split at h
    · rename_i hb
      obtain ⟨h1, h2⟩ := List.mem_filter.1 h
      have hh : hostT t s ≠ -1 := by simp only [slotB, Bool.and_eq_true, decide_eq_true_eq] at hb; exact hb.2.2
      exact ⟨(M.kid ((M.host_or hs).resolve_left hh) h1).1, by simpa using h2⟩
    · simp at h
  · rintro ⟨hn, rfl⟩
    obtain ⟨h1, h2, h3, h4, h5, h6⟩ := M.of_slot hn (M.ne1 hs)
    obtain ⟨g1, g2, g3, _⟩ := M.over_root hn h1
    rw [asgT, if_pos h6, h5]
    exact List.mem_filter.2 ⟨g3, by simp⟩
theorem May.asg_kid {s n : Int} (hs : isN t s = true) (h : n ∈ asgT t s) : parN t n = hostT t s ∧ parN t n ≠ -1 ∧ (nd t (parN t n)).root = topT t s ∧ isN t n = true := by
  obtain ⟨hn, rfl⟩ := (M.mem_asg hs).1 h
  obtain ⟨h1, h2, h3, h4, h5, h6⟩ := M.of_slot hn (M.ne1 hs)
  obtain ⟨g1, g2, g3, g4, _⟩ := M.over_root hn h1
  exact ⟨h5.symm, g1, by rw [g4, h4], hn⟩
theorem May.slots_nodup {r : Int} (hr : isN t r = true) : (slotsT t r).Nodup := List.Nodup.sublist List.filter_sublist (M.nodup_listT hr)
theorem May.asg_nodup {s : Int} (hs : isN t s = true) : (asgT t s).Nodup := by
  unfold asgT
  split
  · rename_i hb
    have hh : hostT t s ≠ -1 := by simp only [slotB, Bool.and_eq_true, decide_eq_true_eq] at hb; exact hb.2.2
    exact List.Nodup.sublist List.filter_sublist (M.kids_nodup ((M.host_or hs).resolve_left hh))
  · exact List.nodup_nil
/-- A slot that has the name of one ahead of it has nobody. -/
theorem May.asg_named {r : Int} (hr : isN t r = true) (h3 : (nd t r).kind = 3) (hm : (attrT t r 8).isSome = false) {i k : Nat} (hi : i < (slotsT t r).length) (hk : k < i)
    (h : nameT t (slotsT t r)[i] = nameT t ((slotsT t r)[k]'(Nat.lt_trans hk hi))) : asgT t (slotsT t r)[i] = [] := by
  rw [List.eq_nil_iff_forall_not_mem]
  intro n hn
  have hsl := M.slot_in hr (List.getElem_mem hi)
  obtain ⟨hnN, he⟩ := (M.mem_asg hsl.1).1 hn
  have hne : ofT t n ≠ -1 := by rw [he]; exact M.ne1 hsl.1
  obtain ⟨h1, h2, _, h4, _⟩ := M.of_slot hnN hne
  have ht : topT t (slotsT t r)[i] = r := M.root_top (M.par_3 hr h3) hsl.1 hsl.2.1
  have ho : overT t n = r := by rw [← h4, he, ht]
  have e : ofT t n = fstOf (fitB t false (attrT t n 9) (nameT t n)) (slotsT t r) := by rw [ofT, if_neg h1, ho, hm]
  rw [e] at he hne
  have g1 := fstOf_first (M.slots_nodup hr) hi hk he (by rw [← he]; exact hne)
  have g2 : fitB t false (attrT t n 9) (nameT t n) (slotsT t r)[i] = true := by rw [← he]; exact (fstOf_mem hne).2
  simp only [fitB, Bool.false_eq_true, if_false] at g1 g2
  rw [← h, g2] at g1
  cases g1
theorem May.text_attrs {n : Int} (hn : isN t n = true) (h : (nd t n).kind = 2) : (nd t n).attrs = [] := attrsFrom_text (nd t n) h _ _ (M.parts hn).2.1
/-- Texts of one parent are laid alike. -/
theorem May.of_text {n k : Int} (hn : isN t n = true) (hk : isN t k = true) (h1 : (nd t n).kind = 2) (h2 : (nd t k).kind = 2) (hp : parN t n = parN t k) : ofT t n = ofT t k := by
  have e1 : overT t n = overT t k := by unfold overT; rw [hp]
  unfold ofT attrT nameT attrT
  rw [e1, M.text_attrs hn h1, M.text_attrs hk h2]
theorem May.kids_sub {n : Int} (hn : isN t n = true) : (nd t n).kids.Sublist (listT t n) := by
  rw [M.listT_step hn]
  exact List.Sublist.cons _ (flatMap_sub fun x hx => sub_self t M (M.kid hn hx).1)
theorem May.list_sub {a : Int} : ∀ n, isN t n = true → a ∈ upsP t n → (listT t n).Sublist (listT t a) := by
  intro n hn
  refine M.par_ind (P := fun n => isN t n = true → a ∈ upsP t n → (listT t n).Sublist (listT t a)) (fun h => absurd rfl (M.ne1 h)) (fun n hn ih _ h => ?_) n (.inr hn) hn
  rw [M.upsP_step hn] at h
  rcases List.mem_cons.1 h with rfl | h
  · exact List.Sublist.refl _
  · have hp : parN t n ≠ -1 := fun e => by rw [e, upsP_none] at h; cases h
    obtain ⟨h1, h2⟩ := M.par_mem hn hp
    refine List.Sublist.trans ?_ (ih h1 h)
    rw [M.listT_step h1]
    exact List.Sublist.cons _ (mem_flatMap_sub h2)
theorem May.asg_sub {s : Int} (hs : isN t s = true) : asgT t s = [] ∨ (isN t (hostT t s) = true ∧ (asgT t s).Sublist (listT t (topT t (hostT t s)))) := by
  unfold asgT
  split
  · rename_i hb
    have hh : hostT t s ≠ -1 := by simp only [slotB, Bool.and_eq_true, decide_eq_true_eq] at hb; exact hb.2.2
    have hN := (M.host_or hs).resolve_left hh
    exact .inr ⟨hN, List.Sublist.trans List.filter_sublist (List.Sublist.trans (M.kids_sub hN) (M.list_sub _ hN (M.topT_mem hN)))⟩
  · exact .inl rfl
end
end Go.Proofs.Lime
namespace Go.Proofs.Lime
open Go.RowKit
set_option linter.unusedVariables false
set_option linter.unusedSimpArgs false
set_option linter.unusedSectionVars false

/-- The last one on the way up through hosts. -/
def topS (t : List Nd) (n : Int) : Int := (upsT t n).getLastD (-1)
theorem sub_two {l : List Int} {a b : Int} (h : b ∈ l) : [a, b].Sublist (a :: l) := List.Sublist.cons_cons _ (List.singleton_sublist.2 h)
theorem sub_app {l k : List Int} {a b : Int} (h : a ∈ l) (h2 : b ∈ k) : [a, b].Sublist (l ++ k) :=
  (List.Sublist.append (List.singleton_sublist.2 h) (List.singleton_sublist.2 h2) : ([a] ++ [b]).Sublist (l ++ k))
/-- Where a number stands first. -/
def posOf : List Int → Int → Nat
  | [], _ => 0
  | x :: l, a => if x = a then 0 else posOf l a + 1
theorem posOf_lt {a : Int} : ∀ {l : List Int}, a ∈ l → posOf l a < l.length
  | [], h => by simp at h
  | x :: l, h => by
    rw [posOf]
    split
    · simp
    · rename_i hx
      have := posOf_lt ((List.mem_cons.1 h).resolve_left (fun e => hx e.symm))
      simp; omega
theorem posOf_sub {a b : Int} : ∀ {l : List Int}, l.Nodup → [a, b].Sublist l → posOf l a < posOf l b
  | [], _, h => by cases h
  | x :: l, hd, h => by
    obtain ⟨h1, h2⟩ := List.nodup_cons.1 hd
    rw [posOf, posOf]
    cases h with
    | cons _ h =>
      have ha : a ∈ l := h.subset (by simp)
      have hb : b ∈ l := h.subset (by simp)
      rw [if_neg (by rintro rfl; exact h1 ha), if_neg (by rintro rfl; exact h1 hb)]
      have := posOf_sub h2 h
      omega
    | cons_cons _ h =>
      have hb : b ∈ l := h.subset (by simp)
      rw [if_pos rfl, if_neg (by rintro rfl; exact h1 hb)]
      omega
section
variable {ok : Int → Prop} {s : Int → Int} {ch : Int → List Int} {d : Int → Nat} {B : Nat} (F : Forest ok s ch d B)
include F
theorem Forest.sub {a : Int} : ∀ n, ok n → a ∈ chainIn s (B + 1) n → (preIn ch (B + 1) n).Sublist (preIn ch (B + 1) a) := by
  intro n hn
  refine F.ind (P := fun n => ok n → a ∈ chainIn s (B + 1) n → (preIn ch (B + 1) n).Sublist (preIn ch (B + 1) a)) (fun h => absurd h F.neg) (fun n hn ih _ h => ?_) n (.inr hn) hn
  rw [F.up_step hn] at h
  rcases List.mem_cons.1 h with rfl | h
  · exact List.Sublist.refl _
  · have hp : s n ≠ -1 := fun e => by rw [e, chain_nil] at h; cases h
    have h1 := (F.up n hn).resolve_left hp
    refine List.Sublist.trans ?_ (ih h1 h)
    rw [F.pre_step h1]
    exact List.Sublist.cons _ (mem_flatMap_sub ((F.chi (s n) n h1).2 ⟨hn, rfl⟩))
theorem Forest.last_mem {n : Int} (hn : ok n) : (chainIn s (B + 1) n).getLastD (-1) ∈ chainIn s (B + 1) n := by
  rw [List.getLastD_eq_getLast?, List.getLast?_eq_some_getLast (by rw [F.up_step hn]; simp)]
  exact List.getLast_mem _
theorem Forest.last_step {n : Int} (hn : ok n) (h : s n ≠ -1) : (chainIn s (B + 1) n).getLastD (-1) = (chainIn s (B + 1) (s n)).getLastD (-1) := by
  rw [F.up_step hn, F.up_step ((F.up n hn).resolve_left h)]
  rfl
theorem Forest.last_up {a : Int} : ∀ n, ok n → a ∈ chainIn s (B + 1) n → (chainIn s (B + 1) a).getLastD (-1) = (chainIn s (B + 1) n).getLastD (-1) := by
  intro n hn
  refine F.ind (P := fun n => ok n → a ∈ chainIn s (B + 1) n → (chainIn s (B + 1) a).getLastD (-1) = (chainIn s (B + 1) n).getLastD (-1)) (fun h => absurd h F.neg) (fun n hn ih _ h => ?_) n (.inr hn) hn
  rw [F.up_step hn] at h
  rcases List.mem_cons.1 h with rfl | h
  · rfl
  · have hp : s n ≠ -1 := fun e => by rw [e, chain_nil] at h; cases h
    rw [F.last_step hn hp]
    exact ih ((F.up n hn).resolve_left hp) h
end
/-- A step up that lowers a rank makes a forest. -/
theorem forest_of {ok : Int → Prop} {s : Int → Int} {ch : Int → List Int} {ρ : Int → Nat} {B : Nat} (neg : ¬ ok (-1)) (up : ∀ n, ok n → s n = -1 ∨ ok (s n)) (low : ∀ n, ok n → s n ≠ -1 → ρ (s n) < ρ n) (bd : ∀ n, ok n → ρ n < B)
    (chi : ∀ n y, ok n → (y ∈ ch n ↔ ok y ∧ s y = n)) (nodup : ∀ n, ok n → (ch n).Nodup) : Forest ok s ch (fun n => (chainIn s (B + 1) n).length) B := by
  have ne1 : ∀ n, ok n → n ≠ -1 := fun n hn e => neg (e ▸ hn)
  have key : ∀ (f : Nat) (n : Int), ok n → (chainIn s f n).length ≤ ρ n + 1 := by
    intro f
    induction f with
    | zero => intro n _; simp [chainIn]
    | succ f ih =>
      intro n hn
      rw [chain_step (ne1 n hn)]
      by_cases hs : s n = -1
      · rw [hs, chain_nil]; simp
      · have h1 := ih (s n) ((up n hn).resolve_left hs)
        have h2 := low n hn hs
        simp; omega
  have step : ∀ n, ok n → chainIn s (B + 1) n = n :: chainIn s (B + 1) (s n) := by
    intro n hn
    have h1 := key (B + 1) n hn
    have h2 := bd n hn
    rw [chain_step (ne1 n hn)] at h1 ⊢
    congr 1
    symm
    apply chain_more _ _ (by omega)
    simp at h1
    omega
  refine ⟨neg, up, fun n hn => ?_, fun n hn hs => ?_, fun n hn => ?_, chi, nodup⟩
  · rw [step n hn]; simp
  · show (chainIn s (B + 1) n).length = _
    rw [step n hn]; rfl
  · have := key (B + 1) n hn
    have := bd n hn
    omega
/-- The rank of a node: its place in the list, with shadows, of its last one. -/
def rkS (t : List Nd) (n : Int) : Nat := posOf (listS t (topS t n)) n
section
variable {t : List Nd} (M : May t)
include M
theorem May.topS_mem {n : Int} (hn : isN t n = true) : isN t (topS t n) = true ∧ n ∈ listS t (topS t n) := by
  have h1 : topS t n ∈ upsT t n := M.shade.last_mem hn
  have h2 := M.ups_mem (.inr hn) h1
  exact ⟨h2, (M.shade.mem_pre h2).2 ⟨hn, h1⟩⟩
theorem May.rk_lt {n : Int} (hn : isN t n = true) : rkS t n < t.length := by
  obtain ⟨h1, h2⟩ := M.topS_mem hn
  have h3 := posOf_lt h2
  have h4 : (listS t (topS t n)).length ≤ t.length := nodup_isN (M.shade.nodup_pre h1) fun x hx => ((M.shade.mem_pre h1).1 hx).1
  unfold rkS; omega
/-- Who stands ahead of a node, in the list of somebody above both, has the lower rank. -/
theorem May.rk_of {a b p : Int} (hp : isN t p = true) (ha : isN t a = true) (hb : isN t b = true) (h1 : p ∈ upsT t a) (h2 : p ∈ upsT t b) (h : [a, b].Sublist (listS t p)) : rkS t a < rkS t b := by
  have e1 : topS t a = topS t p := (M.shade.last_up a ha h1).symm
  have e2 : topS t b = topS t p := (M.shade.last_up b hb h2).symm
  obtain ⟨h3, h4⟩ := M.topS_mem hp
  have h5 : topS t p ∈ upsT t p := M.shade.last_mem hp
  unfold rkS
  rw [e1, e2]
  exact posOf_sub (M.shade.nodup_pre h3) (List.Sublist.trans h (M.shade.sub p hp h5))
theorem May.up_mem {n : Int} (hn : isN t n = true) (h : upN t n ≠ -1) : upN t n ∈ upsT t n := by
  rw [M.ups_step hn]; exact List.mem_cons_of_mem _ (M.shade.self ((M.up hn).resolve_left h))
theorem May.rk_up {n p : Int} (hn : isN t n = true) (hp : isN t p = true) (h : p ∈ upsT t n) (hne : p ≠ n) : rkS t p < rkS t n := by
  refine M.rk_of hp hp hn (M.shade.self hp) h ?_
  have h1 := (M.shade.mem_pre hp).2 ⟨hn, h⟩
  unfold listS
  rw [M.shade.pre_step hp] at h1 ⊢
  exact sub_two ((List.mem_cons.1 h1).resolve_left (fun e => hne e.symm))
/-- A node's slot has a lower rank. -/
theorem May.rk_slot {n : Int} (hn : isN t n = true) (h : ofT t n ≠ -1) : rkS t (ofT t n) < rkS t n ∧ parN t n ∈ upsT t (ofT t n) := by
  obtain ⟨h1, h2, h3, h4, h5, h6⟩ := M.of_slot hn h
  obtain ⟨g1, g2, g3, g4, g5, g6, g7, g8⟩ := M.over_root hn h1
  have hup : upN t n = parN t n := M.par_up hn (fun h3' => g1 (M.par_3 hn h3'))
  have ha : parN t n ∈ upsT t n := by have := M.up_mem hn (by rw [hup]; exact g1); rwa [hup] at this
  have hb : parN t n ∈ upsT t (ofT t n) := by rw [← h5]; exact M.hostT_above h3 (by rw [h5]; exact g1)
  refine ⟨M.rk_of g2 h3 hn hb ha ?_, hb⟩
  unfold listS
  rw [M.shade.pre_step g2]
  refine List.Sublist.cons _ ?_
  have hch : chS t (parN t n) = [overT t n] ++ (nd t (parN t n)).kids := by
    unfold chS
    rw [if_neg (by rw [g4]; exact h1), g4]
  rw [hch, List.flatMap_append]
  refine sub_app ?_ ?_
  · rw [List.flatMap_singleton]
    refine (M.shade.mem_pre g5).2 ⟨h3, ?_⟩
    rw [← h4]; exact M.topT_above h3
  · exact List.mem_flatMap.2 ⟨n, g3, (M.shade.mem_pre hn).2 ⟨hn, M.shade.self hn⟩⟩
end

/-- The kids in the flat tree. -/
def kidsF (t : List Nd) (n : Int) : List Int := if (nd t n).kind = 3 then [] else if (nd t n).root ≠ -1 then (nd t (nd t n).root).kids else if asgT t n ≠ [] then asgT t n else (nd t n).kids
def overF (t : List Nd) (n : Int) : Int := if parN t n = -1 then -1 else if (nd t (parN t n)).kind = 3 then hostT t n else if (nd t (parN t n)).root ≠ -1 then ofT t n else parN t n
def parF (t : List Nd) (n : Int) : Int := if overF t n ≠ -1 ∧ n ∈ kidsF t (overF t n) then overF t n else -1
def upsF (t : List Nd) (n : Int) : List Int := chainIn (parF t) (t.length + 1) n
def listF (t : List Nd) (n : Int) : List Int := preIn (kidsF t) (t.length + 1) n
def kidsFR (t : List Nd) (n : Int) : List Int := if mayT t = true ∧ isN t n = true then kidsF t n else []
def parFR (t : List Nd) (n : Int) : Int := if mayT t = true ∧ isN t n = true then parF t n else -1
def upsFR (t : List Nd) (n : Int) : List Int := if mayT t = true ∧ isN t n = true then upsF t n else []
def listFR (t : List Nd) : List Int := if mayT t = true then listF t 0 else []
section
variable {t : List Nd} (M : May t)
include M
theorem May.kidF {p n : Int} (hp : isN t p = true) (h : n ∈ kidsF t p) : isN t n = true ∧ overF t n = p := by
  unfold kidsF at h
  split at h
  · simp at h
  rename_i h3
  split at h
  · rename_i hr
    obtain ⟨_, g1, g2, g3⟩ := M.root hp rfl hr
    obtain ⟨k1, _, k2, _⟩ := M.kid g1 h
    refine ⟨k1, ?_⟩
    have ht : topT t n = (nd t p).root := by
      rw [M.topT_step k1, if_neg (by rw [k2]; exact M.ne1 g1), k2, M.topT_step g1, if_pos (M.par_3 g1 g2)]
    rw [overF, if_neg (by rw [k2]; exact M.ne1 g1), if_pos (by rw [k2]; exact g2), hostT, ht, g3]
  rename_i hr
  have hr' : (nd t p).root = -1 := Classical.byContradiction hr
  split at h
  · obtain ⟨k1, k2⟩ := (M.mem_asg hp).1 h
    have hne : ofT t n ≠ -1 := by rw [k2]; exact M.ne1 hp
    obtain ⟨g1, _⟩ := M.of_slot k1 hne
    obtain ⟨e1, e2, e3, e4, e5, e6, e7, _⟩ := M.over_root k1 g1
    have e8 := M.root e2 e4 g1
    exact ⟨k1, by rw [overF, if_neg e1, if_neg (by omega), if_pos (by rw [e4]; exact g1), k2]⟩
  · obtain ⟨k1, _, k2, _⟩ := M.kid hp h
    exact ⟨k1, by rw [overF, if_neg (by rw [k2]; exact M.ne1 hp), if_neg (by rw [k2]; exact h3), if_neg (by rw [k2]; simpa using hr'), k2]⟩
theorem May.overF_or {n : Int} (hn : isN t n = true) : overF t n = -1 ∨ (isN t (overF t n) = true ∧ rkS t (overF t n) < rkS t n) := by
  unfold overF
  split
  · exact .inl rfl
  rename_i hp
  obtain ⟨h1, h2⟩ := M.par_mem hn hp
  have hup : upN t n = parN t n := M.par_up hn (fun h3' => hp (M.par_3 hn h3'))
  split
  · rename_i h3
    rcases M.host_or hn with h | h
    · exact .inl h
    · refine .inr ⟨h, M.rk_up hn h (M.hostT_above hn (M.ne1 h)) ?_⟩
      intro e
      have := M.dep_host hn (M.ne1 h)
      rw [e] at this; omega
  split
  · rcases Classical.em (ofT t n = -1) with h | h
    · exact .inl h
    · exact .inr ⟨(M.of_slot hn h).2.2.1, (M.rk_slot hn h).1⟩
  · refine .inr ⟨h1, M.rk_up hn h1 (by have := M.up_mem hn (by rw [hup]; exact hp); rwa [hup] at this) ?_⟩
    intro e
    have := M.dep_step hn
    rw [hup, e] at this; omega
theorem May.parF_or {n : Int} (hn : isN t n = true) : parF t n = -1 ∨ (isN t (parF t n) = true ∧ rkS t (parF t n) < rkS t n ∧ n ∈ kidsF t (parF t n)) := by
  unfold parF
  split
  · rename_i h
    obtain ⟨h1, h2⟩ := (M.overF_or hn).resolve_left h.1
    exact .inr ⟨h1, h2, h.2⟩
  · exact .inl rfl
theorem May.mem_kidsF {p n : Int} (hp : isN t p = true) : n ∈ kidsF t p ↔ isN t n = true ∧ parF t n = p := by
  constructor
  · intro h
    obtain ⟨h1, h2⟩ := M.kidF hp h
    exact ⟨h1, by rw [parF, if_pos ⟨by rw [h2]; exact M.ne1 hp, by rw [h2]; exact h⟩, h2]⟩
  · rintro ⟨h1, rfl⟩
    exact ((M.parF_or h1).resolve_left (M.ne1 hp)).2.2
theorem May.kidsF_nodup {p : Int} (hp : isN t p = true) : (kidsF t p).Nodup := by
  unfold kidsF
  split
  · exact List.nodup_nil
  split
  · rename_i hr
    exact M.kids_nodup (M.root hp rfl hr).2.1
  split
  · exact M.asg_nodup hp
  · exact M.kids_nodup hp
theorem May.flat : Forest (fun n => isN t n = true) (parF t) (kidsF t) (fun n => (chainIn (parF t) (t.length + 1) n).length) t.length :=
  forest_of (ρ := rkS t) (fun h => M.ne1 h rfl) (fun n hn => (M.parF_or hn).imp id And.left) (fun n hn h => ((M.parF_or hn).resolve_left h).2.1) (fun n hn => M.rk_lt hn) (fun n y hn => M.mem_kidsF hn) (fun n hn => M.kidsF_nodup hn)
end
end Go.Proofs.Lime
namespace Go.Proofs.Lime
open Go.RowKit
set_option linter.unusedVariables false
set_option linter.unusedSimpArgs false
set_option linter.unusedSectionVars false

/-- Whom an event goes to from n. -/
def aimN (t : List Nd) (comp : Bool) (tg n : Int) : Int := if ofT t n ≠ -1 then ofT t n else if (nd t n).kind = 3 ∧ comp = false ∧ topT t tg = n then -1 else upN t n
def aimR (t : List Nd) (comp : Bool) (tg n : Int) : Int := if (mayT t && (isN t n && isN t tg)) = true then aimN t comp tg n else -1
structure Stp3 where
  node : Int
  target : Int
  related : Int
deriving DecidableEq
def stopT (t : List Nd) (tg re n : Int) : Stp3 := ⟨n, retR t tg n, retR t re n⟩
def endT (t : List Nd) (tg re n : Int) : Prop := retR t tg n = retR t re n ∧ tg ≠ re
instance (t : List Nd) (tg re n : Int) : Decidable (endT t tg re n) := by unfold endT; infer_instance
/-- The stops of an event, from n on, at most f. -/
def pathIn (t : List Nd) (comp : Bool) (tg re : Int) : Nat → Int → List Stp3
  | 0, _ => []
  | f + 1, n => if n = -1 then [] else if endT t tg re n then [] else stopT t tg re n :: pathIn t comp tg re f (aimN t comp tg n)
def pathT (t : List Nd) (comp : Bool) (tg re : Int) (n : Int) : List Stp3 := pathIn t comp tg re (t.length + 1) n
def pathR (t : List Nd) (comp : Bool) (tg re : Int) : List Stp3 := if mayT t = true ∧ isN t tg = true then pathT t comp tg re tg else []
theorem path_none (t : List Nd) (comp : Bool) (tg re : Int) (f : Nat) : pathIn t comp tg re f (-1) = [] := by cases f <;> simp [pathIn]
section
variable {t : List Nd} (M : May t)
include M
theorem May.upN_max {n : Int} (hn : isN t n = true) : max (parN t n) (nd t n).host = upN t n := by
  unfold upN
  split
  · rename_i h3
    obtain ⟨_, h1, h2, _⟩ := M.sh3 hn h3
    have := (isN_iff.1 h2).1
    omega
  · rename_i h3
    rw [(M.shn hn h3).1]
    have h4 := M.par hn
    show max (parN t n) (-1) = parN t n
    rcases h4 with h | ⟨h, _⟩
    · omega
    · have := (isN_iff.1 h).1; omega
theorem May.aim_or (comp : Bool) (tg : Int) {n : Int} (hn : isN t n = true) : aimN t comp tg n = -1 ∨ (isN t (aimN t comp tg n) = true ∧ rkS t (aimN t comp tg n) < rkS t n) := by
  unfold aimN
  split
  · rename_i h
    exact .inr ⟨(M.of_slot hn h).2.2.1, (M.rk_slot hn h).1⟩
  split
  · exact .inl rfl
  · rcases M.up hn with h | h
    · exact .inl h
    · refine .inr ⟨h, M.rk_up hn h (M.up_mem hn (M.ne1 h)) ?_⟩
      intro e
      have := M.dep_step hn
      rw [e] at this; omega
theorem May.path_more (comp : Bool) (tg re : Int) : ∀ (f : Nat) (n : Int), (n = -1 ∨ (isN t n = true ∧ rkS t n < f)) → ∀ g, f ≤ g → pathIn t comp tg re g n = pathIn t comp tg re f n
  | f, n, .inl h, g, hg => by rw [h, path_none, path_none]
  | 0, n, .inr ⟨hn, hf⟩, g, hg => by omega
  | f + 1, n, .inr ⟨hn, hf⟩, 0, hg => by omega
  | f + 1, n, .inr ⟨hn, hf⟩, g + 1, hg => by
    rw [pathIn, pathIn, if_neg (M.ne1 hn), if_neg (M.ne1 hn)]
    split
    · rfl
    · congr 1
      exact May.path_more comp tg re f _ ((M.aim_or comp tg hn).imp id fun h => ⟨h.1, by omega⟩) g (by omega)
theorem May.path_step (comp : Bool) (tg re : Int) {n : Int} (hn : isN t n = true) : pathT t comp tg re n = if endT t tg re n then [] else stopT t tg re n :: pathT t comp tg re (aimN t comp tg n) := by
  have h1 := M.rk_lt hn
  unfold pathT
  rw [pathIn, if_neg (M.ne1 hn)]
  split
  · rfl
  · congr 1
    refine (M.path_more comp tg re _ _ ((M.aim_or comp tg hn).imp id fun h => ⟨h.1, by omega⟩) _ (by omega)).symm
theorem May.path_none' (comp : Bool) (tg re : Int) : pathT t comp tg re (-1) = [] := path_none _ _ _ _ _
/-- Induction on an event's way. -/
theorem May.aim_ind (comp : Bool) (tg : Int) {P : Int → Prop} (h0 : P (-1)) (h : ∀ n, isN t n = true → P (aimN t comp tg n) → P n) : ∀ n, (n = -1 ∨ isN t n = true) → P n := by
  have key : ∀ d n, (n = -1 ∨ isN t n = true) → rkS t n ≤ d → P n := by
    intro d
    induction d with
    | zero =>
      rintro n (rfl | hn) hd
      · exact h0
      · refine h n hn ?_
        rcases M.aim_or comp tg hn with e | ⟨_, h2⟩
        · rw [e]; exact h0
        · omega
    | succ d ih =>
      rintro n (rfl | hn) hd
      · exact h0
      · refine h n hn ?_
        rcases M.aim_or comp tg hn with e | ⟨h1, h2⟩
        · rw [e]; exact h0
        · exact ih _ (.inr h1) (by omega)
  exact fun n hn => key _ n hn (Nat.le_refl _)
theorem May.path_len (comp : Bool) (tg re : Int) : ∀ n, (n = -1 ∨ isN t n = true) → (pathT t comp tg re n).length ≤ t.length := by
  have key : ∀ n, (n = -1 ∨ isN t n = true) → n = -1 ∨ (pathT t comp tg re n).length ≤ rkS t n + 1 := by
    refine M.aim_ind comp tg (.inl rfl) fun n hn ih => .inr ?_
    rw [M.path_step comp tg re hn]
    split
    · simp
    · rcases M.aim_or comp tg hn with e | ⟨h1, h2⟩
      · rw [e, M.path_none']; simp
      · have := ih.resolve_left (M.ne1 h1)
        simp; omega
  intro n hn
  rcases hn with rfl | hn
  · rw [M.path_none']; simp
  · have h1 := (key n (.inr hn)).resolve_left (M.ne1 hn)
    have := M.rk_lt hn; omega
/-- Who is on the way is a node, of no higher rank, and stands there as a stop. -/
theorem May.path_mem (comp : Bool) (tg re : Int) : ∀ n, (n = -1 ∨ isN t n = true) → ∀ s ∈ pathT t comp tg re n, isN t s.node = true ∧ s = stopT t tg re s.node ∧ ¬ endT t tg re s.node ∧ rkS t s.node ≤ rkS t n := by
  refine M.aim_ind comp tg (fun s h => by rw [M.path_none'] at h; simp at h) fun n hn ih s hs => ?_
  rw [M.path_step comp tg re hn] at hs
  split at hs
  · simp at hs
  · rename_i he
    rcases List.mem_cons.1 hs with rfl | hs
    · exact ⟨hn, rfl, he, Nat.le_refl _⟩
    · obtain ⟨h1, h2, h3, h4⟩ := ih s hs
      refine ⟨h1, h2, h3, ?_⟩
      rcases M.aim_or comp tg hn with e | ⟨_, h5⟩
      · rw [e, M.path_none'] at hs; simp at hs
      · omega
theorem May.path_nodup (comp : Bool) (tg re : Int) : ∀ n, (n = -1 ∨ isN t n = true) → ((pathT t comp tg re n).map Stp3.node).Nodup := by
  refine M.aim_ind comp tg (by rw [M.path_none']; exact List.nodup_nil) fun n hn ih => ?_
  rw [M.path_step comp tg re hn]
  split
  · exact List.nodup_nil
  · rw [List.map_cons, List.nodup_cons]
    refine ⟨fun h => ?_, ih⟩
    obtain ⟨s, hs, e⟩ := List.mem_map.1 h
    rcases M.aim_or comp tg hn with e1 | ⟨h1, h5⟩
    · rw [e1, M.path_none'] at hs; simp at hs
    · have h2 := M.path_mem comp tg re _ (.inr h1) s hs
      rw [show s.node = n from e] at h2
      omega
/-- An event that is not composed stays below its target's top. -/
theorem May.path_inside (tg re : Int) (htg : isN t tg = true) (h3 : (nd t (topT t tg)).kind = 3) : ∀ n, (n = -1 ∨ isN t n = true) → topT t tg ∈ upsT t n → ∀ s ∈ pathT t false tg re n, topT t tg ∈ upsT t s.node := by
  have htN := M.topT_isN htg
  refine M.aim_ind false tg (fun h => by rw [upsT_none] at h; simp at h) fun n hn ih h s hs => ?_
  rw [M.path_step false tg re hn] at hs
  split at hs
  · simp at hs
  · rcases List.mem_cons.1 hs with rfl | hs
    · exact h
    · refine ih ?_ s hs
      unfold aimN
      split
      · rename_i ho
        obtain ⟨h1, h2⟩ := M.rk_slot hn ho
        obtain ⟨o1, _, o3, _⟩ := M.of_slot hn ho
        obtain ⟨g1, g2, _⟩ := M.over_root hn o1
        have hne : topT t tg ≠ n := by
          rintro rfl
          exact g1 (M.par_3 htN h3)
        have hup : upN t n = parN t n := M.par_up hn (fun h3' => g1 (M.par_3 hn h3'))
        rw [M.ups_step hn, hup] at h
        exact M.shade.up_trans (.inr o3) ((List.mem_cons.1 h).resolve_left hne) h2
      · rename_i ho
        have hne : topT t tg ≠ n := by
          rintro e
          rw [aimN, if_neg ho, if_pos ⟨by rw [← e]; exact h3, rfl, e⟩, M.path_none'] at hs
          simp at hs
        rw [if_neg (fun hc => hne hc.2.2)]
        rw [M.ups_step hn] at h
        exact (List.mem_cons.1 h).resolve_left hne
/-- What is not composed goes the same way, as far as it goes. -/
theorem May.path_prefix (tg re : Int) : ∀ n, (n = -1 ∨ isN t n = true) → pathT t false tg re n <+: pathT t true tg re n := by
  refine M.aim_ind false tg (by rw [M.path_none']; exact List.nil_prefix) fun n hn ih => ?_
  rw [M.path_step false tg re hn, M.path_step true tg re hn]
  split
  · exact List.nil_prefix
  · by_cases hc : ofT t n = -1 ∧ ((nd t n).kind = 3 ∧ topT t tg = n)
    · have : aimN t false tg n = -1 := by rw [aimN, if_neg (by simpa using hc.1), if_pos ⟨hc.2.1, rfl, hc.2.2⟩]
      rw [this, M.path_none']
      exact List.prefix_cons_inj _ |>.2 List.nil_prefix
    · have e : aimN t true tg n = aimN t false tg n := by
        unfold aimN
        by_cases ho : ofT t n = -1
        · rw [if_neg (by simpa using ho), if_neg (by simp), if_neg (by simpa using ho), if_neg (fun h => hc ⟨ho, h.1, h.2.2⟩)]
        · rw [if_pos ho, if_pos ho]
      rw [e]
      exact List.prefix_cons_inj _ |>.2 ih
theorem May.path_plain (tg re : Int) (htg : isN t tg = true) (h3 : (nd t (topT t tg)).kind ≠ 3) : ∀ n, (n = -1 ∨ isN t n = true) → pathT t false tg re n = pathT t true tg re n := by
  refine M.aim_ind false tg (by rw [M.path_none', M.path_none']) fun n hn ih => ?_
  rw [M.path_step false tg re hn, M.path_step true tg re hn]
  split
  · rfl
  · have e : aimN t true tg n = aimN t false tg n := by
      unfold aimN
      by_cases ho : ofT t n = -1
      · rw [if_neg (by simpa using ho), if_neg (by simp), if_neg (by simpa using ho), if_neg (fun h => h3 (by rw [h.2.2]; exact h.1))]
      · rw [if_pos ho, if_pos ho]
    rw [e, ih]
/-- Is a node in a shadow that does not hold another one? -/
def hidT (t : List Nd) (n f : Int) : Bool := decide ((nd t (topT t n)).kind = 3) && !decide (topT t n ∈ upsT t f)
theorem May.ret_hid {a b : Int} (ha : isN t a = true) (hb : isN t b = true) : hidT t (retT t a b) b = false := by
  have h1 := M.ret_stop (upsT t b) a ha
  have h2 : isN t (retT t a b) = true := M.ret_isN _ a ha
  unfold hidT
  by_cases h3 : (nd t (topT t (retT t a b))).kind = 3
  · have hh : hostT t (retT t a b) ≠ -1 := M.ne1 (M.sh3 (M.topT_isN h2) h3).2.2.1
    have h4 := M.hostT_root h2 hh
    have : topT t (retT t a b) ∈ upsT t b := Classical.byContradiction fun hn => h1 ⟨hh, by
      show (nd t (hostT t (retT t a b))).root ∉ _
      rw [h4]; exact hn⟩
    simp [this]
  · simp [h3]
end
end Go.Proofs.Lime
