/- Plain law: places in lists; what my own contracts' functions tell of small trees. No conditions. -/
import Derived.Test.YtfdhfnjdafaogaaME
import Derived.Test.YtfdhfnjdafaogaaMP
namespace Go.Proofs.Ytfdhfnjdafaogaa.P
open Go.RowKit Go.Proofs.YtfdhfnjdafaogaaW.PrintWords Go.Proofs.YtfdhfnjdafaogaaW.PrintLast Go.Proofs.YtfdhfnjdafaogaaW.PrintMore
set_option linter.unusedVariables false
set_option linter.unusedSimpArgs false


section
variable {l : List S36} (hs : Lime.smallT (tr l) = true)
include hs
theorem List_f (n : Int) : order_List.f l n = some (Lime.listR (tr l) n) := ifSmall_yes hs
theorem Top_f (n : Int) : order_Top.f l n = some (Lime.topR (tr l) n) := ifSmall_yes hs
theorem all_f (ns : List Int) : order_all.f l ns = some (Lime.allT (tr l) ns) := ifSmall_yes hs
theorem small_len : l.length ≤ 70 := by
  have h := hs
  simp only [Lime.smallT, Bool.and_eq_true, decide_eq_true_eq, tr_length] at h
  exact h.1
end
theorem ups_len {t : List Lime.Nd} (n : Int) : (Lime.upsR t n).length ≤ t.length + 1 := by
  unfold Lime.upsR
  split
  · exact Lime.chain_le _ _ _
  · simp
end Go.Proofs.Ytfdhfnjdafaogaa.P
