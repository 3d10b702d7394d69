/- Trees that may be stay so, in plain words: what is made, attached, taken out and put in. No conditions. -/
import Derived.Test.YtclhmgchllenlaaTin
import Derived.Test.YtclhmgchllenlaaTmk
import Derived.Test.YtclhmgchllenlaaMay
namespace Go.Proofs.Lime
open Go.RowKit
set_option linter.unusedVariables false
set_option linter.unusedSimpArgs false
set_option linter.unusedSectionVars false

theorem nodup_lt_ : ∀ (n : Nat) (l : List Nat), l.Nodup → (∀ x ∈ l, x < n) → l.length ≤ n
  | 0, l, _, h => by
    cases l with
    | nil => simp
    | cons x l => exact absurd (h x List.mem_cons_self) (by omega)
  | n + 1, l, hd, h => by
    have h1 := nodup_lt_ n (l.erase n) (hd.erase n) (fun x hx => by
      have h2 := h x (List.mem_of_mem_erase hx)
      have h3 : x ≠ n := by rintro rfl; exact absurd hx (List.Nodup.not_mem_erase hd)
      omega)
    have h2 := List.length_erase (a := n) (l := l)
    split at h2 <;> omega
theorem nodup_isN_ {t : List Nd} {l : List Int} (hd : l.Nodup) (h : ∀ x ∈ l, isN t x = true) : l.length ≤ t.length := by
  have h1 := nodup_lt_ t.length (l.map Int.toNat) (by
    rw [List.nodup_iff_pairwise_ne, List.pairwise_map]
    refine List.Pairwise.imp_of_mem (fun ha hb hab => ?_) hd
    have h1 := isN_iff.1 (h _ ha)
    have h2 := isN_iff.1 (h _ hb)
    omega) (fun x hx => by
    obtain ⟨y, hy, rfl⟩ := List.mem_map.1 hx
    have := isN_iff.1 (h y hy)
    omega)
  simpa using h1
theorem chain_rank {t : List Nd} {s : Int → Int} (r : Int → Nat) (h : ∀ n, isN t n = true → s n = -1 ∨ (isN t (s n) = true ∧ r (s n) < r n)) : ∀ (f : Nat) (n : Int), (n = -1 ∨ isN t n = true) → (chainIn s f n).Nodup ∧ ∀ x ∈ chainIn s f n, isN t x = true ∧ r x ≤ r n
  | 0, _, _ => by simp [chainIn]
  | f + 1, n, hn => by
    rcases hn with rfl | hn
    · rw [chain_nil]; simp
    · have hne : n ≠ -1 := by rintro rfl; simp [isN] at hn
      rw [chain_step hne]
      have ih := chain_rank r h f (s n) ((h n hn).imp id And.left)
      have hlt : ∀ x ∈ chainIn s f (s n), r x < r n := fun x hx => by
        rcases h n hn with h1 | h1
        · rw [h1, chain_nil] at hx; simp at hx
        · have := (ih.2 x hx).2; omega
      refine ⟨List.nodup_cons.2 ⟨fun hm => by have := hlt n hm; omega, ih.1⟩, fun x hx => ?_⟩
      rcases List.mem_cons.1 hx with rfl | hx
      · exact ⟨hn, Nat.le_refl _⟩
      · exact ⟨(ih.2 x hx).1, Nat.le_of_lt (hlt x hx)⟩
theorem ends_rank {t : List Nd} (r : Int → Nat) (h : ∀ n, isN t n = true → upN t n = -1 ∨ (isN t (upN t n) = true ∧ r (upN t n) < r n)) (k : Nat) (hk : k < t.length) : endsIn t (t.length + 1) k = true := by
  rw [ends_chain]
  obtain ⟨h1, h2⟩ := chain_rank r h (t.length + 1) k (.inr (isN_of hk))
  have := nodup_isN_ h1 (fun x hx => (h2 x hx).1)
  exact decide_eq_true (by omega)
theorem kid_nodup {t : List Nd} (M : May t) {n : Int} (hn : isN t n = true) : (nd t n).kids.Nodup := by
  rw [List.nodup_iff_count]
  intro y
  by_cases hy : y ∈ (nd t n).kids
  · have := (M.kid hn hy).2.1; omega
  · rw [List.count_eq_zero_of_not_mem hy]; omega
theorem May.leaf {t : List Nd} (M : May t) {n : Int} (hn : isN t n = true) (h : (nd t n).kind = 2) : (nd t n).kids = [] := by
  have h1 := (M.parts hn).2.2.1
  simp only [kidsOk, Bool.and_eq_true, Bool.not_eq_true', Bool.and_eq_false_iff, decide_eq_false_iff_not] at h1
  rcases h1.2.1 with h2 | h2
  · exact absurd h h2
  · exact List.eq_nil_of_length_eq_zero (by omega)
theorem attrs_len {k : Int} : ∀ {l : List Attr} {z : Int}, attrsFrom k z l = true → -1 ≤ z → z ≤ 9 → (l.length : Int) ≤ 9 - z
  | [], z, _, _, h => by simp; omega
  | a :: l, z, h, h1, h2 => by
    simp only [attrsFrom, attrOk, Bool.and_eq_true, decide_eq_true_eq] at h
    have := attrs_len h.2.2 (by omega) h.1.1.2.1
    simp only [List.length_cons]
    omega
theorem may_okT {t : List Nd} (M : May t) : okT t = true := by
  rw [okT_iff]
  refine ⟨by have := M.len2; omega, fun x hx => ?_⟩
  obtain ⟨k, hk, rfl⟩ := List.getElem_of_mem hx
  have hn := isN_of hk
  have h1 := nodup_isN_ (kid_nodup M hn) (fun y hy => (M.kid hn hy).1)
  have h2 := (M.parts hn).2.1
  rw [nd_nat hk] at h1 h2
  have h3 := attrs_len h2 (by omega) (by omega)
  have := M.len2
  omega
/-- May a tree be? What is to be shown. -/
theorem May.build {t : List Nd} (l1 : 1 ≤ t.length) (l2 : t.length ≤ 64) (hk : ∀ n, isN t n = true → kindOk (nd t n) n = true ∧ attrsOk (nd t n) = true ∧ shadowOk t n = true)
    (h1 : ∀ n, isN t n = true → ∀ y ∈ (nd t n).kids, isN t y = true ∧ (nd t n).kids.count y = 1 ∧ parN t y = n ∧ ((nd t y).kind = 1 ∨ (nd t y).kind = 2))
    (h2 : ∀ n, isN t n = true → (nd t n).kind = 2 → (nd t n).kids = [])
    (h3 : ∀ n, isN t n = true → parN t n = -1 ∨ (isN t (parN t n) = true ∧ (nd t (parN t n)).kids.count n = 1))
    (r : Int → Nat) (h4 : ∀ n, isN t n = true → upN t n = -1 ∨ (isN t (upN t n) = true ∧ r (upN t n) < r n)) : May t := by
  refine ⟨l1, l2, fun k hkl => ?_, ends_rank r h4⟩
  have hn := isN_of hkl
  obtain ⟨a, b, c⟩ := hk k hn
  simp only [nodeOk, Bool.and_eq_true]
  refine ⟨a, b, ?_, c⟩
  simp only [kidsOk, Bool.and_eq_true, Bool.or_eq_true, decide_eq_true_eq, Bool.not_eq_true', Bool.and_eq_false_iff, decide_eq_false_iff_not]
  refine ⟨List.all_eq_true.2 fun y hy => ?_, ?_, ?_⟩
  · simpa only [kidOk, Bool.and_eq_true, Bool.or_eq_true, decide_eq_true_eq, parN] using h1 k hn y hy
  · by_cases h : (nd t k).kind = 2
    · right; rw [h2 k hn h]; simp
    · exact .inl h
  · exact h3 k hn
/-- What a change of parents and kids leaves. -/
structure Sim (x y : Nd) : Prop where mk ::
  kind : x.kind = y.kind
  tag : x.tag = y.tag
  host : x.host = y.host
  root : x.root = y.root
  attrs : x.attrs = y.attrs
theorem isN_len {t u : List Nd} (h : u.length = t.length) (n : Int) : isN u n = isN t n := by unfold isN; rw [h]
theorem May.change {t u : List Nd} (M : May t) (hl : u.length = t.length) (hs : ∀ n, isN t n = true → Sim (nd u n) (nd t n)) (hp : ∀ n, isN t n = true → (nd t n).kind = 3 → parN u n = -1)
    (h1 : ∀ n, isN t n = true → ∀ y ∈ (nd u n).kids, isN t y = true ∧ (nd u n).kids.count y = 1 ∧ parN u y = n ∧ ((nd t y).kind = 1 ∨ (nd t y).kind = 2))
    (h2 : ∀ n, isN t n = true → (nd t n).kind = 2 → (nd u n).kids = [])
    (h3 : ∀ n, isN t n = true → parN u n = -1 ∨ (isN t (parN u n) = true ∧ (nd u (parN u n)).kids.count n = 1))
    (r : Int → Nat) (h4 : ∀ n, isN t n = true → (nd t n).kind ≠ 3 → parN u n = -1 ∨ (isN t (parN u n) = true ∧ r (parN u n) < r n)) (h5 : ∀ n, isN t n = true → (nd t n).kind = 3 → r (nd t n).host < r n) : May u := by
  have hi := isN_len hl
  refine May.build (by rw [hl]; exact M.len1) (by rw [hl]; exact M.len2) (fun n hn => ?_) (fun n hn y hy => ?_) (fun n hn h => ?_) (fun n hn => ?_) r (fun n hn => ?_)
  · rw [hi] at hn
    have s := hs n hn
    obtain ⟨a, b, _, c⟩ := M.parts hn
    refine ⟨by simpa only [kindOk, s.kind, s.tag] using a, by simpa only [attrsOk, s.kind, s.attrs] using b, ?_⟩
    by_cases hk : (nd t n).kind = 3
    · obtain ⟨e1, e2, e3, e4, e5⟩ := M.sh3 hn hk
      have s2 := hs _ e3
      rw [shadowOk, if_pos (by rw [s.kind, hk])]
      simp only [Bool.and_eq_true, decide_eq_true_eq, hi]
      rw [s.root, s.host, s2.kind, s2.root]
      exact ⟨e1, hp n hn hk, e3, e4, e5⟩
    · obtain ⟨e1, e2⟩ := M.shn hn hk
      rw [shadowOk, if_neg (by rw [s.kind]; exact hk)]
      simp only [Bool.and_eq_true, Bool.or_eq_true, decide_eq_true_eq, hi]
      rw [s.root, s.host, s.kind]
      refine ⟨e1, e2.imp id fun ⟨a, b, c, d⟩ => ?_⟩
      have s2 := hs _ b
      rw [s2.kind, s2.host]
      exact ⟨a, b, c, d⟩
  · rw [hi] at hn ⊢
    obtain ⟨a, b, c, d⟩ := h1 n hn y hy
    have s := hs y a
    exact ⟨a, b, c, by rw [s.kind]; exact d⟩
  · rw [hi] at hn
    exact h2 n hn (by rw [← (hs n hn).kind]; exact h)
  · rw [hi] at hn
    rcases h3 n hn with h | h
    · exact .inl h
    · exact .inr ⟨by rw [hi]; exact h.1, h.2⟩
  · rw [hi] at hn
    have s := hs n hn
    rw [upN, s.kind]
    split
    · rename_i hk
      right
      rw [s.host, hi]
      exact ⟨(M.sh3 hn hk).2.2.1, h5 n hn hk⟩
    · rename_i hk
      rw [hi]
      exact h4 n hn hk
theorem nd_set {t : List Nd} {k : Nat} (x : Nd) (hk : k < t.length) {n : Int} (hn : isN t n = true) : nd (t.set k x) n = if n = k then x else nd t n := by
  obtain ⟨j, rfl, hj⟩ := isN_nat hn
  rw [nd_nat (by simpa using hj), nd_nat hj, List.getElem_set]
  by_cases h : k = j
  · subst h; simp
  · rw [if_neg h, if_neg (by omega)]
theorem nd_getD (t : List Nd) (k : Nat) : t.getD k noNd = nd t k := rfl
/-- The nodes of a tree, c taken out. -/
theorem nd_take {t : List Nd} (M : May t) {c : Nat} (hc : c < t.length) (hp : parN t c ≠ -1) : (takeT t c).length = t.length ∧ ∀ n, isN t n = true → nd (takeT t c) n = if n = c then (nd t c).parTo (-1) else if n = parN t c then (nd t (parN t c)).kidsTo (outI c (nd t (parN t c)).kids) else nd t n := by
  have hcN := isN_of hc
  obtain ⟨h1, h2⟩ := M.par_mem hcN hp
  have hne : parN t c ≠ c := fun e => by
    have h3 := (M.dep_kid h1 h2).2.2
    rw [e] at h3; omega
  obtain ⟨p, hpe, hpl⟩ := isN_nat h1
  have e0 : (t.getD c noNd).parent = p := hpe
  unfold takeT
  rw [e0, if_neg (by omega)]
  simp only [Int.toNat_natCast]
  rw [nd_getD t p, nd_getD _ c, hpe]
  refine ⟨by simp, fun n hn => ?_⟩
  have hcp : (c : Int) ≠ p := fun e => hne (by rw [hpe, e])
  have hL : (t.set p ((nd t p).kidsTo (outI c (nd t p).kids))).length = t.length := by simp
  rw [nd_set _ (by rw [hL]; exact hc) (by rw [isN_len hL]; exact hn)]
  rw [nd_set _ hpl hcN, if_neg hcp, nd_set _ hpl hn]
theorem count_out (c : Int) (l : List Int) (y : Int) : (outI c l).count y = if y = c then 0 else l.count y := by
  unfold outI
  split
  · rename_i h; subst h
    rw [List.count_eq_zero]
    simp
  · rename_i h
    rw [List.count_filter (by simpa using h)]
theorem mem_out {c y : Int} {l : List Int} : y ∈ outI c l ↔ y ∈ l ∧ y ≠ c := by simp [outI]
theorem may_take {t : List Nd} (M : May t) {c : Nat} (hc : c < t.length) : May (takeT t c) := by
  by_cases hp : parN t c = -1
  · have : takeT t c = t := by
      unfold takeT; exact if_pos hp
    rw [this]; exact M
  have hcN := isN_of hc
  obtain ⟨hl, hN⟩ := nd_take M hc hp
  obtain ⟨h1, h2⟩ := M.par_mem hcN hp
  have hk3 : (nd t c).kind ≠ 3 := fun h => hp (M.sh3 hcN h).2.1
  have hP : ∀ n, isN t n = true → parN (takeT t c) n = if n = c then -1 else parN t n := fun n hn => by
    unfold parN
    rw [hN n hn]
    split
    · rfl
    · split
      · rename_i e; rw [e]; rfl
      · rfl
  have hK : ∀ n, isN t n = true → (nd (takeT t c) n).kids = if n = parN t c then outI c (nd t n).kids else (nd t n).kids := fun n hn => by
    rw [hN n hn]
    by_cases e : n = c
    · subst e
      rw [if_pos rfl, if_neg]
      · rfl
      · intro e
        have h3 := (M.dep_kid h1 h2).2.2
        rw [← e] at h3; omega
    · rw [if_neg e]
      split
      · rename_i e; rw [e]; rfl
      · rfl
  refine M.change hl (fun n hn => ?_) (fun n hn h => ?_) (fun n hn y hy => ?_) (fun n hn h => ?_) (fun n hn => ?_) (dep t) (fun n hn h => ?_) (fun n hn h => ?_)
  · rw [hN n hn]
    split
    · rename_i e; rw [e]; exact ⟨rfl, rfl, rfl, rfl, rfl⟩
    · split
      · rename_i e; rw [e]; exact ⟨rfl, rfl, rfl, rfl, rfl⟩
      · exact ⟨rfl, rfl, rfl, rfl, rfl⟩
  · rw [hP n hn]
    split
    · rfl
    · exact (M.sh3 hn h).2.1
  · rw [hK n hn] at hy ⊢
    by_cases e : n = parN t c
    · rw [if_pos e] at hy ⊢
      obtain ⟨g1, g2⟩ := mem_out.1 hy
      obtain ⟨a, b, d, k⟩ := M.kid hn g1
      refine ⟨a, by rw [count_out, if_neg g2]; exact b, by rw [hP y a, if_neg g2]; exact d, k⟩
    · rw [if_neg e] at hy ⊢
      obtain ⟨a, b, d, k⟩ := M.kid hn hy
      refine ⟨a, b, ?_, k⟩
      rw [hP y a, if_neg]
      · exact d
      · rintro rfl; exact e d.symm
  · rw [hK n hn, M.leaf hn h]
    split <;> rfl
  · rw [hP n hn]
    by_cases e : n = c
    · rw [if_pos e]; exact .inl rfl
    · rw [if_neg e]
      rcases M.par hn with g | ⟨g1, g2⟩
      · exact .inl g
      · refine .inr ⟨g1, ?_⟩
        rw [hK _ g1]
        split
        · rw [count_out, if_neg e]; exact g2
        · exact g2
  · rw [hP n hn]
    by_cases e : n = c
    · rw [if_pos e]; exact .inl rfl
    · rw [if_neg e]
      by_cases g : parN t n = -1
      · exact .inl g
      · obtain ⟨g1, g2⟩ := M.par_mem hn g
        exact .inr ⟨g1, by rw [(M.dep_kid g1 g2).2.2]; omega⟩
  · have := M.dep_step hn
    rw [upN, if_pos h] at this
    omega
theorem count_insAt (l : List Int) (b c y : Int) : (insAt l b c).count y = (if y = c then 1 else 0) + l.count y := by
  unfold insAt
  generalize (if idx (· == b) l < 0 then l.length else (idx (· == b) l).toNat) = i
  have h := List.count_append (a := y) (l₁ := l.take i) (l₂ := l.drop i)
  rw [List.take_append_drop] at h
  rw [List.count_append, List.count_cons, h]
  by_cases e : y = c
  · subst e; simp; omega
  · have e2 : ¬ c = y := fun h => e h.symm
    simp [e, e2]
theorem mem_insAt {l : List Int} {b c y : Int} : y ∈ insAt l b c ↔ y = c ∨ y ∈ l := by
  rw [← List.count_pos_iff, ← List.count_pos_iff, count_insAt]
  by_cases e : y = c
  · simp [e]; omega
  · simp [e]
/-- c put among p's kids. -/
def putT (t : List Nd) (p c : Nat) (b : Int) : List Nd := (t.set p ((nd t p).kidsTo (insAt (nd t p).kids b c))).set c ((nd (t.set p ((nd t p).kidsTo (insAt (nd t p).kids b c))) c).parTo p)
theorem insT_put (t : List Nd) (p c : Nat) (b : Int) : insT t p c b = if b = c then t else putT (takeT t c) p c b := rfl
theorem nd_put {t : List Nd} {p c : Nat} (hp : p < t.length) (hc : c < t.length) (hne : p ≠ c) (b : Int) : (putT t p c b).length = t.length ∧ ∀ n, isN t n = true → nd (putT t p c b) n = if n = c then (nd t c).parTo p else if n = p then (nd t p).kidsTo (insAt (nd t p).kids b c) else nd t n := by
  unfold putT
  refine ⟨by simp, fun n hn => ?_⟩
  have hL : (t.set p ((nd t p).kidsTo (insAt (nd t p).kids b c))).length = t.length := by simp
  have hcp : ¬ (c : Int) = p := by omega
  rw [nd_set _ (by rw [hL]; exact hc) (by rw [isN_len hL]; exact hn), nd_set _ hp (isN_of hc), if_neg hcp, nd_set _ hp hn]
theorem may_put {t : List Nd} (M : May t) {p c : Nat} (hp : p < t.length) (hc : c < t.length) (b : Int) (hpar : parN t c = -1) (hkc : (nd t c).kind = 1 ∨ (nd t c).kind = 2) (hkp : (nd t p).kind ≠ 2) (hup : (c : Int) ∉ upsT t p) : May (putT t p c b) := by
  have hcN := isN_of hc
  have hpN := isN_of hp
  have hne : p ≠ c := by
    rintro rfl
    exact hup (by rw [M.ups_step hpN]; exact List.mem_cons_self)
  obtain ⟨hl, hN⟩ := nd_put hp hc hne b
  have hno : ∀ n, isN t n = true → (c : Int) ∉ (nd t n).kids := fun n hn h => by
    have := (M.kid hn h).2.2.1
    rw [hpar] at this
    exact M.ne1 hn this.symm
  have hP : ∀ n, isN t n = true → parN (putT t p c b) n = if n = c then (p : Int) else parN t n := fun n hn => by
    unfold parN
    rw [hN n hn]
    split
    · rfl
    · split
      · rename_i e; rw [e]; rfl
      · rfl
  have hK : ∀ n, isN t n = true → (nd (putT t p c b) n).kids = if n = p then insAt (nd t n).kids b c else (nd t n).kids := fun n hn => by
    rw [hN n hn]
    by_cases e : n = c
    · subst e
      rw [if_pos rfl, if_neg (by omega)]
      rfl
    · rw [if_neg e]
      split
      · rename_i e; rw [e]; rfl
      · rfl
  refine M.change hl (fun n hn => ?_) (fun n hn h => ?_) (fun n hn y hy => ?_) (fun n hn h => ?_) (fun n hn => ?_) (fun x => dep t x + if (c : Int) ∈ upsT t x then dep t p + 1 else 0) (fun n hn h => ?_) (fun n hn h => ?_)
  · rw [hN n hn]
    split
    · rename_i e; rw [e]; exact ⟨rfl, rfl, rfl, rfl, rfl⟩
    · split
      · rename_i e; rw [e]; exact ⟨rfl, rfl, rfl, rfl, rfl⟩
      · exact ⟨rfl, rfl, rfl, rfl, rfl⟩
  · rw [hP n hn, if_neg (by rintro rfl; omega)]
    exact (M.sh3 hn h).2.1
  · rw [hK n hn] at hy ⊢
    by_cases e : n = p
    · rw [if_pos e] at hy ⊢
      rcases mem_insAt.1 hy with rfl | g
      · refine ⟨hcN, by rw [count_insAt, if_pos rfl, List.count_eq_zero_of_not_mem (hno n hn)], by rw [hP _ hcN, if_pos rfl, e], hkc⟩
      · obtain ⟨a, b', d, k⟩ := M.kid hn g
        have hyc : y ≠ c := by rintro rfl; exact hno n hn g
        exact ⟨a, by rw [count_insAt, if_neg hyc, Nat.zero_add]; exact b', by rw [hP y a, if_neg hyc]; exact d, k⟩
    · rw [if_neg e] at hy ⊢
      obtain ⟨a, b', d, k⟩ := M.kid hn hy
      have hyc : y ≠ c := by rintro rfl; exact hno n hn hy
      exact ⟨a, b', by rw [hP y a, if_neg hyc]; exact d, k⟩
  · rw [hK n hn, if_neg (by rintro rfl; exact hkp h)]
    exact M.leaf hn h
  · rw [hP n hn]
    by_cases e : n = c
    · rw [if_pos e]
      refine .inr ⟨hpN, ?_⟩
      rw [hK _ hpN, if_pos rfl, e, count_insAt, if_pos rfl, List.count_eq_zero_of_not_mem (hno _ hpN)]
    · rw [if_neg e]
      rcases M.par hn with g | ⟨g1, g2⟩
      · exact .inl g
      · refine .inr ⟨g1, ?_⟩
        rw [hK _ g1]
        split
        · rw [count_insAt, if_neg e, Nat.zero_add]; exact g2
        · exact g2
  · rw [hP n hn]
    by_cases e : n = c
    · rw [if_pos e]
      refine .inr ⟨hpN, ?_⟩
      subst e
      rw [if_neg hup, if_pos (by rw [M.ups_step hcN]; exact List.mem_cons_self)]
      omega
    · rw [if_neg e]
      by_cases g : parN t n = -1
      · exact .inl g
      · obtain ⟨g1, g2⟩ := M.par_mem hn g
        refine .inr ⟨g1, ?_⟩
        obtain ⟨_, k2, k3⟩ := M.dep_kid g1 g2
        have hm : (c : Int) ∈ upsT t n ↔ (c : Int) ∈ upsT t (parN t n) := by
          rw [M.ups_step hn, k2, List.mem_cons]
          exact ⟨fun h => h.resolve_left fun e2 => e e2.symm, .inr⟩
        simp only [hm]
        omega
  · have hd := M.dep_step hn
    have hm : (c : Int) ∈ upsT t n ↔ (c : Int) ∈ upsT t (nd t n).host := by
      rw [M.ups_step hn, List.mem_cons, upN, if_pos h]
      exact ⟨fun g => g.resolve_left fun e2 => by rw [← e2] at h; omega, .inr⟩
    rw [upN, if_pos h] at hd
    simp only [hm]
    omega
theorem chain_congr {s s' : Int → Int} : ∀ (f : Nat) (n : Int), (∀ x ∈ chainIn s f n, s' x = s x) → chainIn s' f n = chainIn s f n
  | 0, _, _ => rfl
  | f + 1, n, h => by
    by_cases hn : n = -1
    · subst hn; rw [chain_nil, chain_nil]
    · rw [chain_step hn] at h ⊢
      rw [chain_step hn, h n List.mem_cons_self, chain_congr f (s n) fun x hx => h x (List.mem_cons_of_mem _ hx)]
theorem not_up_take {t : List Nd} (M : May t) {c : Nat} (hc : c < t.length) {p : Int} (hp : isN t p = true) (h : (c : Int) ∉ upsT t p) : (c : Int) ∉ upsT (takeT t c) p := by
  by_cases hpc : parN t c = -1
  · have : takeT t c = t := by unfold takeT; exact if_pos hpc
    rw [this]; exact h
  obtain ⟨hl, hN⟩ := nd_take M hc hpc
  have : upsT (takeT t c) p = upsT t p := by
    unfold upsT
    rw [hl]
    refine chain_congr _ _ fun x hx => ?_
    have hxN := M.ups_mem (.inr hp) hx
    have hxc : x ≠ c := by rintro rfl; exact h hx
    unfold upN
    rw [hN x hxN, if_neg hxc]
    split
    · rename_i e; rw [e]; rfl
    · rfl
  rw [this]; exact h
theorem wrong_zero {t : List Nd} {p c b : Int} (h : wrongR t p c b = 0) : isN t p = true ∧ isN t c = true ∧ (nd t p).kind ≠ 2 ∧ (nd t c).kind ≠ 0 ∧ (nd t c).kind ≠ 3 ∧ c ∉ upsT t p ∧ (b = -1 ∨ (isN t b = true ∧ (nd t b).parent = p)) := by
  obtain ⟨h1, h2, h3⟩ := wrong_ok h
  unfold wrongR at h
  split at h
  · cases h
  split at h
  · cases h
  split at h
  · cases h
  split at h
  · cases h
  rename_i a b' c' d
  simp only [Bool.not_eq_true, Bool.or_eq_false_iff, beq_eq_false_iff_ne, Bool.and_eq_false_iff, Bool.not_eq_false', beq_iff_eq] at b' d
  refine ⟨h1, h2, b'.1, b'.2.1, b'.2.2, fun hm => c' (by simpa using hm), ?_⟩
  rcases d with d | d
  · exact .inl d
  · rcases h3 with h3 | h3
    · exact .inl h3
    · exact .inr ⟨h3, d⟩
theorem May.kind12 {t : List Nd} (M : May t) {n : Int} (hn : isN t n = true) (h0 : (nd t n).kind ≠ 0) (h3 : (nd t n).kind ≠ 3) : (nd t n).kind = 1 ∨ (nd t n).kind = 2 := by
  have := M.kinds hn
  omega
theorem may_ins {t : List Nd} (M : May t) {p c : Nat} {b : Int} (h : wrongR t p c b = 0) : May (insT t p c b) := by
  obtain ⟨h1, h2, h3, h4, h5, h6, h7⟩ := wrong_zero h
  rw [insT_put]
  split
  · exact M
  have hp : p < t.length := by have := isN_iff.1 h1; omega
  have hc : c < t.length := by have := isN_iff.1 h2; omega
  have M1 := may_take M hc
  have hk := M.kind12 h2 h4 h5
  have hup := not_up_take M hc h1 h6
  have hpc : (p : Int) ≠ c := fun e => h6 (by rw [M.ups_step h1, e]; exact List.mem_cons_self)
  have key : (takeT t c).length = t.length ∧ parN (takeT t c) c = -1 ∧ (nd (takeT t c) c).kind = (nd t c).kind ∧ (nd (takeT t c) p).kind = (nd t p).kind := by
    by_cases hpar : parN t c = -1
    · have : takeT t c = t := by unfold takeT; exact if_pos hpar
      rw [this]; exact ⟨rfl, hpar, rfl, rfl⟩
    · obtain ⟨hl, hN⟩ := nd_take M hc hpar
      refine ⟨hl, ?_, ?_, ?_⟩
      · unfold parN; rw [hN _ h2, if_pos rfl]; rfl
      · rw [hN _ h2, if_pos rfl]; rfl
      · rw [hN _ h1, if_neg hpc]
        split
        · rename_i e; rw [e]; rfl
        · rfl
  obtain ⟨k1, k2, k3, k4⟩ := key
  exact may_put M1 (by rw [k1]; exact hp) (by rw [k1]; exact hc) b k2 (by rw [k3]; exact hk) (by rw [k4]; exact h3) hup
theorem nat_of {t : List Nd} {n : Int} (h : isN t n = true) : ((n.toNat : Nat) : Int) = n := by have := isN_iff.1 h; omega
theorem insT_len (t : List Nd) (p c : Nat) (b : Int) : (insT t p c b).length = t.length := by
  unfold insT takeT
  split
  · rfl
  · simp only [List.length_set]
    split
    · rfl
    · simp
theorem takeT_len (t : List Nd) (c : Nat) : (takeT t c).length = t.length := by
  unfold takeT
  split
  · rfl
  · simp
theorem may_insR {t : List Nd} (M : May t) (p c b : Int) : May (insR t p c b).1 ∧ (insR t p c b).1.length ≤ t.length + 1 := by
  rw [insR, if_neg (by rw [May.iff.2 M]; simp)]
  split
  · exact ⟨M, by simp⟩
  · rename_i h
    have h : wrongR t p c b = 0 := by omega
    obtain ⟨h1, h2, _⟩ := wrong_zero h
    refine ⟨may_ins M (by rw [nat_of h1, nat_of h2]; exact h), by rw [insT_len]; omega⟩
theorem may_rmR {t : List Nd} (M : May t) (c : Int) : May (rmR t c).1 ∧ (rmR t c).1.length ≤ t.length + 1 := by
  rw [rmR, if_neg (by rw [May.iff.2 M]; simp)]
  split
  · exact ⟨M, by simp⟩
  · rename_i h1
    have h1 : isN t c = true := by simpa using h1
    split
    · exact ⟨M, by simp⟩
    · exact ⟨may_take M (by have := isN_iff.1 h1; omega), by rw [takeT_len]; omega⟩
theorem nd_app {t : List Nd} (x : Nd) {n : Int} (hn : isN (t ++ [x]) n = true) : (isN t n = true ∧ nd (t ++ [x]) n = nd t n) ∨ (n = t.length ∧ nd (t ++ [x]) n = x) := by
  obtain ⟨j, rfl, hj⟩ := isN_nat hn
  simp only [List.length_append, List.length_singleton] at hj
  by_cases h : j < t.length
  · refine .inl ⟨isN_of h, ?_⟩
    rw [nd_nat (by simp; omega), nd_nat h, List.getElem_append_left h]
  · have : j = t.length := by omega
    subst this
    refine .inr ⟨rfl, ?_⟩
    rw [nd_nat (by simp)]
    simp
theorem isN_app {t : List Nd} (x : Nd) {n : Int} (hn : isN t n = true) : isN (t ++ [x]) n = true ∧ nd (t ++ [x]) n = nd t n := by
  obtain ⟨j, rfl, hj⟩ := isN_nat hn
  refine ⟨isN_of (by simp; omega), ?_⟩
  rw [nd_nat (by simp; omega), nd_nat hj, List.getElem_append_left hj]
theorem kindOk_app {x : Nd} {n : Int} (h1 : (decide (x.kind = 0) == decide (n = 0)) = true) (h2 : 0 ≤ x.kind) (h3 : x.kind ≤ 3) (h4 : (if x.kind = 1 then decide (0 ≤ x.tag) && decide (x.tag ≤ 4) else decide (x.tag = 0)) = true) : kindOk x n = true := by
  simp only [kindOk, h1, h4, h2, h3, decide_true, Bool.and_self]
theorem may_mkR {t : List Nd} (M : May t) (a b : Int) : May (mkR t a b).1 ∧ (mkR t a b).1.length ≤ t.length + 1 := by
  rw [mkR, if_neg (by rw [May.iff.2 M]; simp)]
  split
  · exact ⟨M, by simp⟩
  rename_i hok
  split
  · exact ⟨M, by simp⟩
  rename_i h64
  refine ⟨?_, by simp⟩
  have hok : mkOk a b = true := by simpa using hok
  have hl1 := M.len1
  have hl2 := M.len2
  have hab : (a = 1 ∧ 0 ≤ b ∧ b ≤ 4) ∨ (a = 2 ∧ b = 0) := by simpa [mkOk, and_assoc] using hok
  have A : ∀ n, isN t n = true → isN (t ++ [freshN a b]) n = true ∧ nd (t ++ [freshN a b]) n = nd t n := fun n hn => isN_app _ hn
  refine May.build (by simp) (by simp; omega) (fun n hn => ?_) (fun n hn y hy => ?_) (fun n hn h => ?_) (fun n hn => ?_) (fun n => if isN t n = true then dep t n else 0) (fun n hn => ?_)
  · rcases nd_app _ hn with ⟨h, e⟩ | ⟨h, e⟩
    · rw [e]
      obtain ⟨p1, p2, _, p4⟩ := M.parts h
      refine ⟨p1, p2, ?_⟩
      by_cases hk : (nd t n).kind = 3
      · obtain ⟨e1, e2, e3, e4, e5⟩ := M.sh3 h hk
        rw [shadowOk, if_pos (by rw [e]; exact hk)]
        simp only [Bool.and_eq_true, decide_eq_true_eq]
        rw [e, (A _ e3).2]
        exact ⟨e1, e2, (A _ e3).1, e4, e5⟩
      · obtain ⟨e1, e2⟩ := M.shn h hk
        rw [shadowOk, if_neg (by rw [e]; exact hk)]
        simp only [Bool.and_eq_true, Bool.or_eq_true, decide_eq_true_eq]
        rw [e]
        refine ⟨e1, e2.imp id fun ⟨a, b, c, d⟩ => ?_⟩
        rw [(A _ b).2]
        exact ⟨a, (A _ b).1, c, d⟩
    · rw [e]
      refine ⟨?_, rfl, ?_⟩
      · have h0 : (decide (a = 0) == decide (n = 0)) = true := by
          have e1 : ¬ a = 0 := by omega
          have e2 : ¬ n = 0 := by omega
          simp [e1, e2]
        refine kindOk_app (x := freshN a b) h0 (by show 0 ≤ a; omega) (by show a ≤ 3; omega) ?_
        show (if a = 1 then decide (0 ≤ b) && decide (b ≤ 4) else decide (b = 0)) = true
        rcases hab with ⟨e1, e2, e3⟩ | ⟨e1, e2⟩
        · simp [e1, e2, e3]
        · simp [e1, e2]
      · rw [shadowOk, if_neg (by rw [e]; show ¬ a = 3; omega), e]
        rfl
  · rcases nd_app _ hn with ⟨h, e⟩ | ⟨h, e⟩
    · rw [e] at hy ⊢
      obtain ⟨p1, p2, p3, p4⟩ := M.kid h hy
      obtain ⟨q1, q2⟩ := A y p1
      unfold parN
      rw [q2]
      exact ⟨q1, p2, p3, p4⟩
    · rw [e] at hy; simp [freshN] at hy
  · rcases nd_app _ hn with ⟨h', e⟩ | ⟨h', e⟩
    · rw [e] at h ⊢; exact M.leaf h' h
    · rw [e]; rfl
  · unfold parN
    rcases nd_app _ hn with ⟨h, e⟩ | ⟨h, e⟩
    · rw [e]
      refine (M.par h).imp id fun ⟨g1, g2⟩ => ?_
      unfold parN at g1 g2
      obtain ⟨q1, q2⟩ := A _ g1
      rw [q2]; exact ⟨q1, g2⟩
    · rw [e]; exact .inl rfl
  · rcases nd_app _ hn with ⟨h, e⟩ | ⟨h, e⟩
    · have hu : upN (t ++ [freshN a b]) n = upN t n := by unfold upN; rw [e]
      rw [hu]
      refine (M.up h).imp id fun g => ⟨(A _ g).1, ?_⟩
      rw [if_pos g, if_pos h, M.dep_step h]; omega
    · left
      rw [upN, e, if_neg (by show ¬ a = 3; omega)]; rfl
theorem may_atR {t : List Nd} (M : May t) (a : Int) : May (atR t a).1 ∧ (atR t a).1.length ≤ t.length + 1 := by
  rw [atR, if_neg (by rw [May.iff.2 M]; simp)]
  split
  · exact ⟨M, by simp⟩
  rename_i hn
  have hn : isN t a = true := by simpa using hn
  split
  · exact ⟨M, by simp⟩
  rename_i hk1
  have hk1 : (nd t a).kind = 1 := by omega
  split
  · exact ⟨M, by simp⟩
  rename_i hr1
  have hr1 : (nd t a).root = -1 := by omega
  split
  · exact ⟨M, by simp⟩
  rename_i h64
  obtain ⟨h, rfl, hh⟩ := isN_nat hn
  have hn' := hn
  simp only [Int.toNat_natCast]
  have hl1 := M.len1
  have hl2 := M.len2
  refine ⟨?_, by simp [atT]⟩
  unfold atT
  rw [nd_getD]
  generalize hu : t.set h ((nd t h).rootTo t.length) = u
  have hul : u.length = t.length := by rw [← hu]; simp
  have hui := isN_len hul
  have hU : ∀ n, isN t n = true → nd u n = if n = h then (nd t h).rootTo t.length else nd t n := fun n hn => by rw [← hu, nd_set _ hh hn]
  generalize hx : (⟨3, 0, -1, [], (h : Int), -1, []⟩ : Nd) = x
  have A : ∀ n, isN t n = true → isN (u ++ [x]) n = true ∧ nd (u ++ [x]) n = if n = h then (nd t h).rootTo t.length else nd t n := fun n hn => by
    obtain ⟨g1, g2⟩ := isN_app (t := u) x (by rw [hui]; exact hn)
    exact ⟨g1, by rw [g2, hU n hn]⟩
  have K : ∀ n, isN t n = true → Sim ({ nd (u ++ [x]) n with root := (nd t n).root }) (nd t n) ∧ (nd (u ++ [x]) n).parent = (nd t n).parent ∧ (nd (u ++ [x]) n).kids = (nd t n).kids := fun n hn => by
    rw [(A n hn).2]
    split
    · rename_i e; rw [e]; exact ⟨⟨rfl, rfl, rfl, rfl, rfl⟩, rfl, rfl⟩
    · exact ⟨⟨rfl, rfl, rfl, rfl, rfl⟩, rfl, rfl⟩
  have Kk : ∀ n, isN t n = true → (nd (u ++ [x]) n).kind = (nd t n).kind := fun n hn => (K n hn).1.kind
  have Kt : ∀ n, isN t n = true → (nd (u ++ [x]) n).tag = (nd t n).tag := fun n hn => (K n hn).1.tag
  have Kh : ∀ n, isN t n = true → (nd (u ++ [x]) n).host = (nd t n).host := fun n hn => (K n hn).1.host
  have Ka : ∀ n, isN t n = true → (nd (u ++ [x]) n).attrs = (nd t n).attrs := fun n hn => (K n hn).1.attrs
  have Kp : ∀ n, isN t n = true → (nd (u ++ [x]) n).parent = (nd t n).parent := fun n hn => (K n hn).2.1
  have Kc : ∀ n, isN t n = true → (nd (u ++ [x]) n).kids = (nd t n).kids := fun n hn => (K n hn).2.2
  have Kr : ∀ n, isN t n = true → (nd (u ++ [x]) n).root = if n = h then (t.length : Int) else (nd t n).root := fun n hn => by
    rw [(A n hn).2]; split <;> rfl
  have hxn : isN (u ++ [x]) t.length = true ∧ nd (u ++ [x]) t.length = x := by
    have h1 : isN (u ++ [x]) t.length = true := isN_of (by simp; omega)
    refine ⟨h1, ?_⟩
    rcases nd_app _ h1 with ⟨g, _⟩ | ⟨_, g⟩
    · rw [hui] at g; have := isN_iff.1 g; omega
    · exact g
  have N : ∀ n, isN (u ++ [x]) n = true → isN t n = true ∨ (n = t.length ∧ nd (u ++ [x]) n = x) := fun n hn => by
    rcases nd_app _ hn with ⟨g, _⟩ | ⟨g1, g2⟩
    · rw [hui] at g; exact .inl g
    · exact .inr ⟨by omega, g2⟩
  have hxk : x.kind = 3 := by rw [← hx]
  have hxh : x.host = h := by rw [← hx]
  refine May.build (by simp) (by simp; omega) (fun n hn => ?_) (fun n hn y hy => ?_) (fun n hn h' => ?_) (fun n hn => ?_) (fun n => if isN t n = true then dep t n else t.length + 1) (fun n hn => ?_)
  · rcases N n hn with g | ⟨g, e⟩
    · obtain ⟨p1, p2, _, p4⟩ := M.parts g
      refine ⟨by simpa only [kindOk, Kk n g, Kt n g] using p1, by simpa only [attrsOk, Kk n g, Ka n g] using p2, ?_⟩
      by_cases hk : (nd t n).kind = 3
      · obtain ⟨e1, e2, e3, e4, e5⟩ := M.sh3 g hk
        have hne : n ≠ h := by rintro rfl; omega
        have hne2 : (nd t n).host ≠ h := by
          intro e
          rw [e, hr1] at e5
          exact M.ne1 g e5.symm
        rw [shadowOk, if_pos (by rw [Kk n g]; exact hk)]
        simp only [Bool.and_eq_true, decide_eq_true_eq]
        rw [Kr n g, if_neg hne, Kp n g, Kh n g, Kk _ e3, Kr _ e3, if_neg hne2]
        exact ⟨e1, e2, (A _ e3).1, e4, e5⟩
      · obtain ⟨e1, e2⟩ := M.shn g hk
        rw [shadowOk, if_neg (by rw [Kk n g]; exact hk)]
        simp only [Bool.and_eq_true, Bool.or_eq_true, decide_eq_true_eq]
        rw [Kr n g, Kk n g, Kh n g]
        refine ⟨e1, ?_⟩
        split
        · rename_i e
          right
          rw [hxn.2, hxk, hxh]
          exact ⟨by rw [e]; exact hk1, hxn.1, rfl, e.symm⟩
        · refine e2.imp id fun ⟨a, b, c, d⟩ => ?_
          rw [Kk _ b, Kh _ b]
          exact ⟨a, (A _ b).1, c, d⟩
    · rw [e]
      refine ⟨?_, by rw [← hx]; rfl, ?_⟩
      · rw [← hx]
        have e0 : (decide ((3 : Int) = 0) == decide (n = 0)) = true := by
          have e2 : ¬ n = 0 := by omega
          simp [e2]
        exact kindOk_app e0 (show (0 : Int) ≤ 3 by decide) (show (3 : Int) ≤ 3 by decide) rfl
      · rw [shadowOk, if_pos (by rw [e]; exact hxk), e, hxh, Kk _ hn', Kr _ hn', if_pos rfl]
        simp only [Bool.and_eq_true, decide_eq_true_eq]
        exact ⟨by rw [← hx], by rw [← hx], (A _ hn').1, hk1, g.symm⟩
  · rcases N n hn with g | ⟨g, e⟩
    · rw [Kc n g] at hy ⊢
      obtain ⟨p1, p2, p3, p4⟩ := M.kid g hy
      unfold parN at p3 ⊢
      rw [Kp y p1, Kk y p1]
      exact ⟨(A _ p1).1, p2, p3, p4⟩
    · rw [e, ← hx] at hy; simp at hy
  · rcases N n hn with g | ⟨g, e⟩
    · rw [Kk n g] at h'; rw [Kc n g]; exact M.leaf g h'
    · rw [e, ← hx]
  · unfold parN
    rcases N n hn with g | ⟨g, e⟩
    · rw [Kp n g]
      refine (M.par g).imp id fun ⟨g1, g2⟩ => ?_
      unfold parN at g1 g2
      rw [Kc _ g1]; exact ⟨(A _ g1).1, g2⟩
    · rw [e, ← hx]; exact .inl rfl
  · rcases N n hn with g | ⟨g, e⟩
    · have hu2 : upN (u ++ [x]) n = upN t n := by unfold upN; rw [Kk n g, Kh n g, Kp n g]
      rw [hu2]
      refine (M.up g).imp id fun g2 => ⟨(A _ g2).1, ?_⟩
      rw [if_pos g2, if_pos g, M.dep_step g]; omega
    · right
      have hu2 : upN (u ++ [x]) n = h := by rw [upN, e, if_pos hxk, hxh]
      rw [hu2, if_pos hn', if_neg (by rw [isN_iff]; omega)]
      have := M.dep_le hn'
      exact ⟨(A _ hn').1, by omega⟩
end Go.Proofs.Lime
