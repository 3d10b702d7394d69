/- Plain law: who is dropped is nowhere. No conditions. -/
import Derived.Test.YtpklhnggbhkmiaaE18s
namespace Go.Proofs.Ytpklhnggbhkmiaa.P
open Go.RowKit Go.Proofs.YtpklhnggbhkmiaaW.PrintWords
open Go.Proofs.Lime (okG openG dropG closeL closeA actA outG okG_iff)
set_option linter.unusedVariables false
set_option linter.unusedSimpArgs false
theorem drop_flat' (G : List (List Int)) (n : Int) : (dropG G n).flatten = outG n G.flatten := by
  unfold Lime.dropG Lime.outG
  induction G with
  | nil => rfl
  | cons g G ih =>
    rw [List.flatten_cons, List.filter_append, ← ih, List.map_cons, List.filter_cons]
    split
    · rfl
    · rename_i h
      have : g.filter (fun x => !(x == n)) = [] := by
        have h' : ((g.filter (fun x => !(x == n))).length == 0) = true := by simpa using h
        exact List.eq_nil_of_length_eq_zero (by simpa using h')
      rw [this, List.nil_append]
theorem out_mem {n e : Int} {l : List Int} : e ∈ outG n l ↔ e ∈ l ∧ e ≠ n := by
  unfold Lime.outG
  rw [List.mem_filter]
  simp
theorem drop_mem {G : List (List Int)} {n e : Int} : e ∈ (dropG G n).flatten ↔ e ∈ G.flatten ∧ e ≠ n := by rw [drop_flat', out_mem]
theorem drop_some {G : List (List Int)} {n : Int} {g : List Int} (h : g ∈ dropG G n) : g ≠ [] := by
  have := (List.mem_filter.1 h).2
  intro e
  subst e
  simp at this
theorem out_same {n : Int} {g : List Int} (h : n ∉ g) : outG n g = g := by
  unfold Lime.outG
  rw [List.filter_eq_self]
  intro x hx
  have : x ≠ n := fun e => h (e ▸ hx)
  simpa using this
theorem drop_same {G : List (List Int)} {n : Int} (h : ∀ g ∈ G, g ≠ [] ∧ n ∉ g) : dropG G n = G := by
  unfold Lime.dropG
  have h1 : G.map (outG n) = G := by
    have : G.map (outG n) = G.map id := List.map_congr_left fun g hg => out_same (h g hg).2
    rw [this, List.map_id]
  rw [h1, List.filter_eq_self]
  intro g hg
  have := (h g hg).1
  have h2 : g.length ≠ 0 := fun e => this (List.eq_nil_of_length_eq_zero e)
  simpa using h2
theorem drop_idem (G : List (List Int)) (n : Int) : dropG (dropG G n) n = dropG G n :=
  drop_same fun g hg => ⟨drop_some hg, fun h => (drop_mem.1 (List.mem_flatten.2 ⟨g, hg, h⟩)).2 rfl⟩
theorem drop_ne {G : List (List Int)} {n : Int} (h : n ∈ G.flatten) : dropG G n ≠ G := fun e => by
  have : n ∈ (dropG G n).flatten := by rw [e]; exact h
  exact (drop_mem.1 this).2 rfl
theorem drop_open {G : List (List Int)} {n : Int} (a : Int) (h : ∀ g ∈ G, g ≠ [] ∧ n ∉ g) : dropG (openG G a n) n = G := by
  have h0 := drop_same h
  unfold Lime.openG
  split
  · unfold Lime.dropG at h0 ⊢
    rw [List.map_append, List.filter_append, h0]
    have : outG n [n] = [] := by simp [Lime.outG]
    simp [this]
  · rename_i hc
    have hl : G.length - 1 < G.length := by omega
    have hg : G.getD (G.length - 1) [] = G[G.length - 1] := by rw [List.getD_eq_getElem?_getD, List.getElem?_eq_getElem hl]; rfl
    have h1 : (G.set (G.length - 1) (G.getD (G.length - 1) [] ++ [n])).map (outG n) = G.map (outG n) := by
      rw [hg, List.map_set]
      have : outG n (G[G.length - 1] ++ [n]) = outG n G[G.length - 1] := by simp [Lime.outG]
      rw [this]
      exact List.ext_getElem (by simp) fun i h1 h2 => by
        rw [List.getElem_set]
        split
        · rename_i e; subst e; rw [List.getElem_map]
        · rfl
    unfold Lime.dropG at h0 ⊢
    rw [h1, h0]
end Go.Proofs.Ytpklhnggbhkmiaa.P
