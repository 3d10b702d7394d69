/- Plain law: small words for an event's way. No conditions. -/
import Derived.Test.YtbdokcdnajdmaaaE05
import Derived.Test.YtbdokcdnajdmaaaMU
namespace Go.Proofs.Ytbdokcdnajdmaaa.P
open Go.RowKit Go.Proofs.YtbdokcdnajdmaaaW.PrintWords Go.Proofs.YtbdokcdnajdmaaaW.PrintLast Go.Proofs.YtbdokcdnajdmaaaW.PrintMore
open Go.Proofs.Lime (May listT topT upsP parN isN nd mayT dep upsT upN hostT ofT aimN aimR pathT pathR stopT endT retR)
set_option linter.unusedVariables false
set_option linter.unusedSimpArgs false
set_option linter.unusedSectionVars false

theorem rd_st2 {p : List Lime.Stp3} {i : Nat} (h : i < p.length) : rd_T36 (p.map st2) (i : Int) = st2 p[i] := by simp [rd_T36, h]
theorem pathR_may {t : List Lime.Nd} (M : May t) (comp : Bool) {tg : Int} (re : Int) (ht : isN t tg = true) : pathR t comp tg re = pathT t comp tg re tg := if_pos ⟨Lime.May.iff.2 M, ht⟩
end Go.Proofs.Ytbdokcdnajdmaaa.P
