/- Plain law: the statements of shadows. No conditions. -/
import Derived.Test.YthjpokmangbibaaE04
import Derived.Test.YthjpokmangbibaaPx1
namespace Go.Proofs.Ythjpokmangbibaa.P
open Go.RowKit Go.Proofs.YthjpokmangbibaaW.PrintWords Go.Proofs.YthjpokmangbibaaW.PrintLast Go.Proofs.YthjpokmangbibaaW.PrintMore
open Go.Proofs.Lime (May listT topT upsP parN isN nd mayT dep upsT upN)
set_option linter.unusedVariables false
set_option linter.unusedSimpArgs false
set_option linter.unusedSectionVars false

theorem live_ev : Ev (fun k => limelightlaw04_live.f k) true := Ev.of limelightlaw04_live.mono (k := 30) (by decide +kernel)
theorem live_some : Ev (fun k => (limelightlaw04_live.f k).bind fun t => some t) true := Ev.bind (f := fun _ t => some t) live_ev (Ev.now _)
theorem upsS_mem {t : List Lime.Nd} {a b : Int} (h : a ∈ Lime.upsS t b) : mayT t = true ∧ isN t a = true ∧ isN t b = true ∧ a ∈ upsT t b := by
  unfold Lime.upsS at h
  split at h
  · rename_i h1
    exact ⟨h1.1, (May.of h1.1).shade.up_ok (.inr h1.2) h, h1.2, h⟩
  · simp at h
theorem aboveS_no {t : List Lime.Nd} {a b : Int} (h : both t a b = false) : aboveS t a b = false := by
  unfold aboveS
  rw [decide_eq_false_iff_not]
  intro hm
  obtain ⟨h1, h2, h3, _⟩ := upsS_mem hm
  rw [both_iff.2 ⟨h1, h2, h3⟩] at h; cases h
end Go.Proofs.Ythjpokmangbibaa.P
