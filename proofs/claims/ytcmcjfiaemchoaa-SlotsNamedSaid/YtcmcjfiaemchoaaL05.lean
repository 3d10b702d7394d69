/- Plain law: words for the statements of slots. No conditions. -/
import Derived.Test.YtcmcjfiaemchoaaE05
import Derived.Test.YtcmcjfiaemchoaaMV
namespace Go.Proofs.Ytcmcjfiaemchoaa.P
open Go.RowKit Go.Proofs.YtcmcjfiaemchoaaW.PrintWords Go.Proofs.YtcmcjfiaemchoaaW.PrintLast Go.Proofs.YtcmcjfiaemchoaaW.PrintMore
open Go.Proofs.Lime (May listT topT upsP parN isN nd mayT dep upsT upN hostT slotB slotsT ofT asgT attrT nameT overT)
set_option linter.unusedVariables false
set_option linter.unusedSimpArgs false
theorem live_f : limelightlaw05_live.f = some true := rfl
theorem live_some : Ev (fun _ => (limelightlaw05_live.f).bind fun t => some t) true := Ev.pure (by rw [live_f]; rfl)
theorem small16 {l : List S35} (h : ¬ (l.length : Int) > 16) : l.length ≤ 16 := by omega
end Go.Proofs.Ytcmcjfiaemchoaa.P
