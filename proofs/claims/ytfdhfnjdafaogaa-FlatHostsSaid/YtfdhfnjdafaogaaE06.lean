/- Plain law: words for the statements of the flat tree. No conditions. -/
import Derived.Test.YtfdhfnjdafaogaaE05
import Derived.Test.YtfdhfnjdafaogaaMU
import Derived.Test.YtfdhfnjdafaogaaMP
namespace Go.Proofs.Ytfdhfnjdafaogaa.P
open Go.RowKit Go.Proofs.YtfdhfnjdafaogaaW.PrintWords Go.Proofs.YtfdhfnjdafaogaaW.PrintLast Go.Proofs.YtfdhfnjdafaogaaW.PrintMore
open Go.Proofs.Lime (May listT topT upsP parN isN nd mayT dep upsT upN hostT slotB slotsT ofT asgT kidsF parF upsF listF overF)
set_option linter.unusedVariables false
set_option linter.unusedSimpArgs false
set_option linter.unusedSectionVars false
theorem small16 {l : List S36} (h : ¬ (l.length : Int) > 16) : l.length ≤ 16 := by omega
theorem plc_lt {a b : Int} : ∀ {xs : List Int}, xs.Nodup → [a, b].Sublist xs → plc xs a < plc xs b
  | [], _, h => by cases h
  | x :: xs, hd, h => by
    obtain ⟨h1, h2⟩ := List.nodup_cons.1 hd
    rw [plc_cons, plc_cons]
    cases h with
    | cons _ h =>
      have ha : a ∈ xs := h.subset (by simp)
      have hb : b ∈ xs := h.subset (by simp)
      have hxa : ¬ x = a := by rintro rfl; exact h1 ha
      have hxb : ¬ x = b := by rintro rfl; exact h1 hb
      rw [if_neg hxa, if_neg hxb, if_pos ha, if_pos hb]
      have := plc_lt h2 h
      omega
    | cons_cons _ h =>
      have hb : b ∈ xs := h.subset (by simp)
      have hne : ¬ a = b := by rintro rfl; exact h1 hb
      rw [if_pos rfl, if_neg hne, if_pos hb]
      have := plc_iff.2 hb
      omega
section
variable {t : List Lime.Nd} (M : May t)
include M
theorem kidsFR_may {n : Int} (hn : isN t n = true) : Lime.kidsFR t n = kidsF t n := if_pos ⟨Lime.May.iff.2 M, hn⟩
theorem parFR_may {n : Int} (hn : isN t n = true) : Lime.parFR t n = parF t n := if_pos ⟨Lime.May.iff.2 M, hn⟩
theorem upsFR_may {n : Int} (hn : isN t n = true) : Lime.upsFR t n = upsF t n := if_pos ⟨Lime.May.iff.2 M, hn⟩
theorem listFR_may : Lime.listFR t = listF t 0 := if_pos (Lime.May.iff.2 M)
theorem aboveFR_may {a b : Int} (hb : isN t b = true) : Lime.aboveFR t a b = decide (a ∈ upsF t b) := by
  unfold Lime.aboveFR
  rw [upsFR_may M hb]
theorem upsF_len {n : Int} (hn : isN t n = true) : (upsF t n).length ≤ 64 := by
  have h1 : (upsF t n).length ≤ t.length := Nat.le_trans (M.flat.up_le hn) (M.flat.bound _ hn)
  have := M.len2; omega
theorem listF_len {n : Int} (hn : isN t n = true) : (listF t n).length ≤ 64 := by
  have h1 := Lime.listF_len M hn
  have := M.len2; omega
theorem kidsF_len {n : Int} (hn : isN t n = true) : (kidsF t n).length ≤ 64 := Lime.kidsF_len M hn
theorem mem_listF {n y : Int} (hn : isN t n = true) : y ∈ listF t n ↔ isN t y = true ∧ n ∈ upsF t y := M.flat.mem_pre hn
theorem upsF_step {n : Int} (hn : isN t n = true) : upsF t n = n :: upsF t (parF t n) := M.flat.up_step hn
theorem upsF_none : upsF t (-1) = [] := Lime.chain_nil _ _
/-- Who has no parent in the flat tree is there only as the document. -/
theorem not_in {n : Int} (hn : isN t n = true) (hp : parF t n = -1) (h0 : n ≠ 0) : 0 ∉ upsF t n := by
  rw [upsF_step M hn, hp, upsF_none M]
  intro h
  exact h0 (List.mem_singleton.1 h).symm
theorem shadow_par {n : Int} (hn : isN t n = true) (h3 : (nd t n).kind = 3) : parF t n = -1 := by
  have ho : overF t n = -1 := if_pos (M.par_3 hn h3)
  unfold parF
  rw [if_neg (fun h => h.1 ho)]
theorem zero_of {n : Int} (hn : isN t n = true) (hk : (nd t n).kind ≠ 0) : n ≠ 0 := fun e => hk ((M.kinds hn).2.2.2 e)
end
end Go.Proofs.Ytfdhfnjdafaogaa.P
