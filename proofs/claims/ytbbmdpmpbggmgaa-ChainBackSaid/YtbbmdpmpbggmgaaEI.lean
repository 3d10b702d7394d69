/- Plain law: places in lists; what my own contracts' functions tell of small trees. No conditions. -/
import Derived.Test.YtbbmdpmpbggmgaaE0
import Derived.Test.YtbbmdpmpbggmgaaME
import Derived.Test.YtbbmdpmpbggmgaaMP
import Derived.Test.YtbbmdpmpbggmgaaPx3
namespace Go.Proofs.Ytbbmdpmpbggmgaa.P
open Go.RowKit Go.Proofs.YtbbmdpmpbggmgaaW.PrintWords Go.Proofs.YtbbmdpmpbggmgaaW.PrintLast Go.Proofs.YtbbmdpmpbggmgaaW.PrintMore
set_option linter.unusedVariables false
set_option linter.unusedSimpArgs false


section
variable {l : List S40} (hs : Lime.smallT (tr l) = true)
include hs
theorem Up_f (n : Int) : order_Up.f l n = some (Lime.upsR (tr l) n) := ifSmall_yes hs
theorem Top_f (n : Int) : order_Top.f l n = some (Lime.topR (tr l) n) := ifSmall_yes hs
theorem all_f (ns : List Int) : order_all.f l ns = some (Lime.allT (tr l) ns) := ifSmall_yes hs
theorem small_len : l.length ≤ 70 := by
  have h := hs
  simp only [Lime.smallT, Bool.and_eq_true, decide_eq_true_eq, tr_length] at h
  exact h.1
end
theorem ups_len {t : List Lime.Nd} (n : Int) : (Lime.upsR t n).length ≤ t.length + 1 := by
  unfold Lime.upsR
  split
  · exact Lime.chain_le _ _ _
  · simp
def both (t : List Lime.Nd) (a b : Int) : Bool := Lime.mayT t && (Lime.isN t a && Lime.isN t b)
theorem both_f (l : List S40) (a b : Int) : limelightref03_Both.f l a b = some (both (tr l) a b) := by
  simp only [limelightref03_Both.f, limelightref01_May.f, limelightref01_Is.f, Option.bind_some, both]
  cases Lime.mayT (tr l) <;> cases Lime.isN (tr l) a <;> simp
theorem both_iff {t : List Lime.Nd} {a b : Int} : both t a b = true ↔ Lime.mayT t = true ∧ Lime.isN t a = true ∧ Lime.isN t b = true := by simp [both]
end Go.Proofs.Ytbbmdpmpbggmgaa.P
