/- Plain law: words for those who watch. No conditions. -/
import Derived.Test.YtpklhnggbhkmiaaWT
import Derived.Test.YtpklhnggbhkmiaaPx1
namespace Go.Proofs.Ytpklhnggbhkmiaa.P
open Go.RowKit Go.Proofs.YtpklhnggbhkmiaaW.PrintWords Go.Proofs.YtpklhnggbhkmiaaW.PrintLast Go.Proofs.YtpklhnggbhkmiaaW.PrintMore
open Go.Proofs.Lime (okG openG dropG closeL closeA actA outG okG_iff)
set_option linter.unusedVariables false
set_option linter.unusedSimpArgs false

theorem w1 {i : Nat} (h : i < 4611686018427387904) : wrap64 ((i : Int) + 1) = ((i + 1 : Nat) : Int) := by
  unfold wrap64; omega
theorem wm1 {i : Nat} (h : i < 4611686018427387904) : wrap64 (((i + 1 : Nat) : Int) - 1) = (i : Int) := by
  unfold wrap64; omega
theorem wid {x : Int} (h : -4611686018427387904 ≤ x) (h2 : x < 4611686018427387904) : wrap64 x = x := by
  unfold wrap64; omega
theorem Ev.pure {α : Type} {x : Option α} {r : α} (h : x = some r) : Ev (fun _ => x) r := ⟨0, fun _ _ => h⟩
theorem Ev.plain {α : Type} {g : Nat → Option α} {r : α} (h : ∀ k, g k = some r) : Ev g r := ⟨0, fun k _ => h k⟩
theorem Ev.cast {α : Type} {g : Nat → Option α} {r r' : α} (h : Ev g r) (e : r = r') : Ev g r' := e ▸ h
theorem Ev.ite {α : Type} {c : Prop} [Decidable c] {g f : Nat → Option α} {r : α} (h1 : c → Ev g r) (h2 : ¬ c → Ev f r) : Ev (fun k => if c then g k else f k) r := by
  by_cases hc : c
  · simp only [hc, if_true]; exact h1 hc
  · simp only [hc, if_false]; exact h2 hc
theorem Ev.yes {α : Type} {c : Prop} [Decidable c] {g f : Nat → Option α} {r : α} (hc : c) (h1 : Ev g r) : Ev (fun k => if c then g k else f k) r := Ev.ite (fun _ => h1) (fun h => absurd hc h)
theorem Ev.no {α : Type} {c : Prop} [Decidable c] {g f : Nat → Option α} {r : α} (hc : ¬ c) (h1 : Ev f r) : Ev (fun k => if c then g k else f k) r := Ev.ite (fun h => absurd h hc) (fun _ => h1)
/-- A loop that counts up to n, with a state that the count tells. -/
theorem Ev.up {α σ : Type} {L : Nat → Int → σ → Option α} {r : α} (n : Nat) (s : Nat → σ) (hend : Ev (fun k => L k (n : Int) (s n)) r)
    (hstep : ∀ i : Nat, i < n → Ev (fun k => L k ((i + 1 : Nat) : Int) (s (i + 1))) r → Ev (fun k => L k (i : Int) (s i)) r) : ∀ i : Nat, i ≤ n → Ev (fun k => L k (i : Int) (s i)) r := by
  have key : ∀ d i : Nat, i + d = n → Ev (fun k => L k (i : Int) (s i)) r := by
    intro d
    induction d with
    | zero => intro i hi; obtain rfl : i = n := by omega
              exact hend
    | succ d ih => intro i hi; exact hstep i (by omega) (ih (i + 1) (by omega))
  exact fun i hi => key (n - i) i (by omega)
theorem Ev.up0 {α : Type} {L : Nat → Int → Option α} {r : α} (n : Nat) (hend : Ev (fun k => L k (n : Int)) r)
    (hstep : ∀ i : Nat, i < n → Ev (fun k => L k ((i + 1 : Nat) : Int)) r → Ev (fun k => L k (i : Int)) r) : Ev (fun k => L k 0) r :=
  Ev.up (L := fun k i (_ : Unit) => L k i) n (fun _ => ()) hend hstep 0 (Nat.zero_le _)

theorem rd_nat {l : List Int} {i : Nat} (h : i < l.length) : rd l (i : Int) = l[i] := by simp [rd, h]
theorem rd_l1 {l : List (List Int)} {i : Nat} (h : i < l.length) : rd_L1 l (i : Int) = l[i] := by simp [rd_L1, h]
theorem live_some : Ev (fun _ => (limelightlaw18_live.f).bind fun t => some t) true := Ev.pure (by decide +kernel)
def bd (N : Nat) (G : List (List Int)) : Prop := G.length ≤ N ∧ ∀ g ∈ G, g.length ≤ N
theorem bd.ok {N : Nat} {G : List (List Int)} (h : bd N G) (hN : N ≤ 100000) : okG G = true := okG_iff.2 ⟨by have := h.1; omega, fun g hg => by have := h.2 g hg; omega⟩
theorem bd.more {N M : Nat} {G : List (List Int)} (h : bd N G) (hN : N ≤ M) : bd M G := ⟨by have := h.1; omega, fun g hg => by have := h.2 g hg; omega⟩
theorem mem_set' {α : Type} {l : List α} {i : Nat} {a b : α} (h : b ∈ l.set i a) : b = a ∨ b ∈ l := by
  rcases List.mem_or_eq_of_mem_set h with h | h
  · exact .inr h
  · exact .inl h
theorem getD_len {G : List (List Int)} {N i : Nat} (h : ∀ g ∈ G, g.length ≤ N) : (G.getD i []).length ≤ N := by
  rw [List.getD_eq_getElem?_getD]
  by_cases hi : i < G.length
  · rw [List.getElem?_eq_getElem hi]; exact h _ (List.getElem_mem hi)
  · rw [List.getElem?_eq_none (by omega)]; simp
theorem bd.opened {N : Nat} {G : List (List Int)} (h : bd N G) (a n : Int) : bd (N + 1) (openG G a n) := by
  unfold openG
  have h1 := h.1
  split
  · refine ⟨by simp; omega, fun g hg => ?_⟩
    rcases List.mem_append.1 hg with hg | hg
    · have := h.2 g hg; omega
    · rw [List.mem_singleton.1 hg]; simp
  · refine ⟨by rw [List.length_set]; omega, fun g hg => ?_⟩
    rcases mem_set' hg with rfl | hg
    · have := getD_len (i := G.length - 1) h.2
      rw [List.length_append, List.length_singleton]; omega
    · have := h.2 g hg; omega
theorem bd.dropped {N : Nat} {G : List (List Int)} (h : bd N G) (n : Int) : bd N (dropG G n) := by
  unfold dropG
  refine ⟨Nat.le_trans (List.length_filter_le _ _) (by simpa using h.1), fun g hg => ?_⟩
  obtain ⟨g', hg', rfl⟩ := List.mem_map.1 (List.mem_filter.1 hg).1
  exact Nat.le_trans (List.length_filter_le _ _) (h.2 g' hg')
theorem open_len (G : List (List Int)) (a n : Int) : (openG G a n).length = if G.length = 0 ∨ (G.length : Int) < a then G.length + 1 else G.length := by
  unfold openG
  split <;> simp
/-- Who was opened is told first. -/
theorem close_open (G : List (List Int)) (a n : Int) : ∃ g, (openG G a n).getD ((openG G a n).length - 1) [] = g ++ [n] ∧ closeL (openG G a n) = n :: g.reverse := by
  have key : ∃ g, (openG G a n).getD ((openG G a n).length - 1) [] = g ++ [n] := by
    unfold openG
    split
    · refine ⟨[], ?_⟩
      rw [List.getD_eq_getElem?_getD]
      simp
    · rename_i h
      refine ⟨G.getD (G.length - 1) [], ?_⟩
      rw [List.length_set, List.getD_eq_getElem?_getD, List.getElem?_set_self (by omega)]; rfl
  obtain ⟨g, hg⟩ := key
  exact ⟨g, hg, by unfold closeL; rw [hg]; simp⟩
def sm (G : List (List Int)) : Bool := G.all (fun g => decide (g.length ≤ 60)) && decide (G.length ≤ 60)
theorem sm_iff {G : List (List Int)} : sm G = true ↔ bd 60 G := by
  unfold sm bd
  simp [and_comm]
end Go.Proofs.Ytpklhnggbhkmiaa.P
