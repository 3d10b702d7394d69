/-
  No cell of these rows narrows 'for every input' (looked for: loops, veiled, ifaces, maps, wideKeys, modest, calm, conditions, laid).
  DERIVED. THE GIVEN ROWS OF THIS SEAT. 6 by the template 'for every input the law returns true; each argument reads behind the call as it read before'; 0 by the template 'total and deterministic' (their statements: YtcmcjfiaemchoaaTotals.lean).
  GIVEN WITH THE SEED: the statements are not yours to turn. If you find one false, say at which input.
  Laid BY PROGRAM, IN A SANDBOX (cutbox-rows.mjs): the forced cells as the released guide's own fill.sh prints them over the translation 660fbf1f148301d0… (all of the seat's roots in one cut). By AI agents, Wed Nov 11 2026. No macro, syntax, notation, axiom, sorry.
-/
import Derived.Test.YtcmcjfiaemchoaaChecked
import GoSem.Claim
import GoSem.ClaimJoined
import GoSem.ClaimMapViews
import Derived.JoinedTies
import Derived.KernelRfl
namespace Go.Proofs.Ytcmcjfiaemchoaa
/- THE CELL 'sum', in the pinned program and in every row, IS THE sha256 OF THE DUMP (.gsa) THAT YtcmcjfiaemchoaaProg.lean LOADS. Nothing in Lean hashes anything: it is a label: what it is worth is what the hold of that sum in a sandbox is worth. -/
noncomputable def Try.pinned : Pinned := { name := "ytcmcjfiaemchoaa", sum := "660fbf1f148301d091e5dfec19111099c2bdfb88bfab233d995815c27fe511fe", checked := Try.checked }
namespace Rows
def none {H : Type} : Left H := { results := [], args := [] }

/-- 'limelightlaw05.SlotsTell': WHATEVER THE INPUT: true; the input reads as it did. -/
def slotsTellSpec : ChangeSpec := { name := "slotsTell", fn := fun _ => fun
  | [d1, d2] => { results := [.lit (.bool true)], args := [d1, d2] }
  | _ => none }
def slotsTellRow : OpenClaim := { program := "ytcmcjfiaemchoaa", sum := "660fbf1f148301d091e5dfec19111099c2bdfb88bfab233d995815c27fe511fe", func := "limelight/limelightlaw05.SlotsTell", spec := "slotsTell", unfollowed := true, recurses := true, apart := false }
def SlotsTellSaid : Prop := slotsTellRow.holds Try.pinned (OpenSpec.ofChange slotsTellSpec)

/-- ITS FALSE NEIGHBOUR: 'it returns false'. Refute it at one input. -/
def slotsTellWrong : ChangeSpec := { name := "slotsTell", fn := fun _ => fun
  | [d1, d2] => { results := [.lit (.bool false)], args := [d1, d2] }
  | _ => none }
def SlotsTellWrongFalsely : Prop := slotsTellRow.holds Try.pinned (OpenSpec.ofChange slotsTellWrong)

/-- 'limelightlaw05.SlotsOnce': WHATEVER THE INPUT: true; the input reads as it did. -/
def slotsOnceSpec : ChangeSpec := { name := "slotsOnce", fn := fun _ => fun
  | [d] => { results := [.lit (.bool true)], args := [d] }
  | _ => none }
def slotsOnceRow : OpenClaim := { program := "ytcmcjfiaemchoaa", sum := "660fbf1f148301d091e5dfec19111099c2bdfb88bfab233d995815c27fe511fe", func := "limelight/limelightlaw05.SlotsOnce", spec := "slotsOnce", unfollowed := true, recurses := true, apart := false }
def SlotsOnceSaid : Prop := slotsOnceRow.holds Try.pinned (OpenSpec.ofChange slotsOnceSpec)

/-- ITS FALSE NEIGHBOUR: 'it returns false'. Refute it at one input. -/
def slotsOnceWrong : ChangeSpec := { name := "slotsOnce", fn := fun _ => fun
  | [d] => { results := [.lit (.bool false)], args := [d] }
  | _ => none }
def SlotsOnceWrongFalsely : Prop := slotsOnceRow.holds Try.pinned (OpenSpec.ofChange slotsOnceWrong)

/-- 'limelightlaw05.SlotsNamed': WHATEVER THE INPUT: true; the input reads as it did. -/
def slotsNamedSpec : ChangeSpec := { name := "slotsNamed", fn := fun _ => fun
  | [d1, d2] => { results := [.lit (.bool true)], args := [d1, d2] }
  | _ => none }
def slotsNamedRow : OpenClaim := { program := "ytcmcjfiaemchoaa", sum := "660fbf1f148301d091e5dfec19111099c2bdfb88bfab233d995815c27fe511fe", func := "limelight/limelightlaw05.SlotsNamed", spec := "slotsNamed", unfollowed := true, recurses := true, apart := false }
def SlotsNamedSaid : Prop := slotsNamedRow.holds Try.pinned (OpenSpec.ofChange slotsNamedSpec)

/-- ITS FALSE NEIGHBOUR: 'it returns false'. Refute it at one input. -/
def slotsNamedWrong : ChangeSpec := { name := "slotsNamed", fn := fun _ => fun
  | [d1, d2] => { results := [.lit (.bool false)], args := [d1, d2] }
  | _ => none }
def SlotsNamedWrongFalsely : Prop := slotsNamedRow.holds Try.pinned (OpenSpec.ofChange slotsNamedWrong)

/-- 'limelightlaw05.SlotsHosts': WHATEVER THE INPUT: true; the input reads as it did. -/
def slotsHostsSpec : ChangeSpec := { name := "slotsHosts", fn := fun _ => fun
  | [d] => { results := [.lit (.bool true)], args := [d] }
  | _ => none }
def slotsHostsRow : OpenClaim := { program := "ytcmcjfiaemchoaa", sum := "660fbf1f148301d091e5dfec19111099c2bdfb88bfab233d995815c27fe511fe", func := "limelight/limelightlaw05.SlotsHosts", spec := "slotsHosts", unfollowed := true, recurses := true, apart := false }
def SlotsHostsSaid : Prop := slotsHostsRow.holds Try.pinned (OpenSpec.ofChange slotsHostsSpec)

/-- ITS FALSE NEIGHBOUR: 'it returns false'. Refute it at one input. -/
def slotsHostsWrong : ChangeSpec := { name := "slotsHosts", fn := fun _ => fun
  | [d] => { results := [.lit (.bool false)], args := [d] }
  | _ => none }
def SlotsHostsWrongFalsely : Prop := slotsHostsRow.holds Try.pinned (OpenSpec.ofChange slotsHostsWrong)

/-- 'limelightlaw05.SlotsOrder': WHATEVER THE INPUT: true; the input reads as it did. -/
def slotsOrderSpec : ChangeSpec := { name := "slotsOrder", fn := fun _ => fun
  | [d1, d2] => { results := [.lit (.bool true)], args := [d1, d2] }
  | _ => none }
def slotsOrderRow : OpenClaim := { program := "ytcmcjfiaemchoaa", sum := "660fbf1f148301d091e5dfec19111099c2bdfb88bfab233d995815c27fe511fe", func := "limelight/limelightlaw05.SlotsOrder", spec := "slotsOrder", unfollowed := true, recurses := true, apart := false }
def SlotsOrderSaid : Prop := slotsOrderRow.holds Try.pinned (OpenSpec.ofChange slotsOrderSpec)

/-- ITS FALSE NEIGHBOUR: 'it returns false'. Refute it at one input. -/
def slotsOrderWrong : ChangeSpec := { name := "slotsOrder", fn := fun _ => fun
  | [d1, d2] => { results := [.lit (.bool false)], args := [d1, d2] }
  | _ => none }
def SlotsOrderWrongFalsely : Prop := slotsOrderRow.holds Try.pinned (OpenSpec.ofChange slotsOrderWrong)

/-- 'limelightlaw05.SlotsNone': WHATEVER THE INPUT: true; the input reads as it did. -/
def slotsNoneSpec : ChangeSpec := { name := "slotsNone", fn := fun _ => fun
  | [d] => { results := [.lit (.bool true)], args := [d] }
  | _ => none }
def slotsNoneRow : OpenClaim := { program := "ytcmcjfiaemchoaa", sum := "660fbf1f148301d091e5dfec19111099c2bdfb88bfab233d995815c27fe511fe", func := "limelight/limelightlaw05.SlotsNone", spec := "slotsNone", unfollowed := true, recurses := true, apart := false }
def SlotsNoneSaid : Prop := slotsNoneRow.holds Try.pinned (OpenSpec.ofChange slotsNoneSpec)

/-- ITS FALSE NEIGHBOUR: 'it returns false'. Refute it at one input. -/
def slotsNoneWrong : ChangeSpec := { name := "slotsNone", fn := fun _ => fun
  | [d] => { results := [.lit (.bool false)], args := [d] }
  | _ => none }
def SlotsNoneWrongFalsely : Prop := slotsNoneRow.holds Try.pinned (OpenSpec.ofChange slotsNoneWrong)

/- THE SECOND FORM. 'bulk': how many values and letters a reading holds, each counted each time it is reached (what is shared counts as often as it is met; a slice's spare places count too). A statement '..UptoSaid' is the law's where the arguments, and the package variables that the reading takes, are together of bulk at most 1048576: NARROWER than '..Said'. Prove '..Said' where nothing that the law and all that it calls make is longer than what came in: it says more and counts as full. Else prove '..UptoSaid'. A law counts once. -/
mutual
def uptoBulk {H : Type} : DataW H → Nat
  | .lit (.string bytes) => bytes.length + 1
  | .lit _ => 1
  | .nil => 1
  | .ptr d => uptoBulk d + 1
  | .slice elems spare => uptoBulkAll elems + uptoBulkAll spare + 1
  | .agg parts => uptoBulkAll parts + 1
  | .iface _ d => uptoBulk d + 1
  | .map entries => uptoBulkEntries entries + 1
  | .held _ => 1
def uptoBulkAll {H : Type} : List (DataW H) → Nat
  | [] => 0
  | d :: r => uptoBulk d + uptoBulkAll r
def uptoBulkEntries {H : Type} : List (Lit × DataW H) → Nat
  | [] => 0
  | x :: r => uptoBulkEntry x + uptoBulkEntries r
def uptoBulkEntry {H : Type} : Lit × DataW H → Nat
  | (.string bytes, d) => bytes.length + uptoBulk d + 1
  | (_, d) => uptoBulk d + 1
 end
def uptoSmall : (H : Type) → List (DataW H) → Bool := fun _ ds => decide (uptoBulkAll ds ≤ 1048576)
def OpenSpec.upto (s : _root_.Go.ChangeSpec) : _root_.Go.OpenSpec := { _root_.Go.OpenSpec.ofChange s with cond := some uptoSmall }

/-- 'limelightlaw05.SlotsTell', WHERE WHAT IT READS IS OF BULK AT MOST 1048576: true; the input reads as it did. -/
def slotsTellUptoRow : OpenClaim := { program := "ytcmcjfiaemchoaa", sum := "660fbf1f148301d091e5dfec19111099c2bdfb88bfab233d995815c27fe511fe", func := "limelight/limelightlaw05.SlotsTell", spec := "slotsTell", unfollowed := true, recurses := true, apart := false, narrowed := true }
def SlotsTellUptoSaid : Prop := slotsTellUptoRow.holds Try.pinned (OpenSpec.upto slotsTellSpec)

/-- 'limelightlaw05.SlotsOnce', WHERE WHAT IT READS IS OF BULK AT MOST 1048576: true; the input reads as it did. -/
def slotsOnceUptoRow : OpenClaim := { program := "ytcmcjfiaemchoaa", sum := "660fbf1f148301d091e5dfec19111099c2bdfb88bfab233d995815c27fe511fe", func := "limelight/limelightlaw05.SlotsOnce", spec := "slotsOnce", unfollowed := true, recurses := true, apart := false, narrowed := true }
def SlotsOnceUptoSaid : Prop := slotsOnceUptoRow.holds Try.pinned (OpenSpec.upto slotsOnceSpec)

/-- 'limelightlaw05.SlotsNamed', WHERE WHAT IT READS IS OF BULK AT MOST 1048576: true; the input reads as it did. -/
def slotsNamedUptoRow : OpenClaim := { program := "ytcmcjfiaemchoaa", sum := "660fbf1f148301d091e5dfec19111099c2bdfb88bfab233d995815c27fe511fe", func := "limelight/limelightlaw05.SlotsNamed", spec := "slotsNamed", unfollowed := true, recurses := true, apart := false, narrowed := true }
def SlotsNamedUptoSaid : Prop := slotsNamedUptoRow.holds Try.pinned (OpenSpec.upto slotsNamedSpec)

/-- 'limelightlaw05.SlotsHosts', WHERE WHAT IT READS IS OF BULK AT MOST 1048576: true; the input reads as it did. -/
def slotsHostsUptoRow : OpenClaim := { program := "ytcmcjfiaemchoaa", sum := "660fbf1f148301d091e5dfec19111099c2bdfb88bfab233d995815c27fe511fe", func := "limelight/limelightlaw05.SlotsHosts", spec := "slotsHosts", unfollowed := true, recurses := true, apart := false, narrowed := true }
def SlotsHostsUptoSaid : Prop := slotsHostsUptoRow.holds Try.pinned (OpenSpec.upto slotsHostsSpec)

/-- 'limelightlaw05.SlotsOrder', WHERE WHAT IT READS IS OF BULK AT MOST 1048576: true; the input reads as it did. -/
def slotsOrderUptoRow : OpenClaim := { program := "ytcmcjfiaemchoaa", sum := "660fbf1f148301d091e5dfec19111099c2bdfb88bfab233d995815c27fe511fe", func := "limelight/limelightlaw05.SlotsOrder", spec := "slotsOrder", unfollowed := true, recurses := true, apart := false, narrowed := true }
def SlotsOrderUptoSaid : Prop := slotsOrderUptoRow.holds Try.pinned (OpenSpec.upto slotsOrderSpec)

/-- 'limelightlaw05.SlotsNone', WHERE WHAT IT READS IS OF BULK AT MOST 1048576: true; the input reads as it did. -/
def slotsNoneUptoRow : OpenClaim := { program := "ytcmcjfiaemchoaa", sum := "660fbf1f148301d091e5dfec19111099c2bdfb88bfab233d995815c27fe511fe", func := "limelight/limelightlaw05.SlotsNone", spec := "slotsNone", unfollowed := true, recurses := true, apart := false, narrowed := true }
def SlotsNoneUptoSaid : Prop := slotsNoneUptoRow.holds Try.pinned (OpenSpec.upto slotsNoneSpec)

end Rows
end Go.Proofs.Ytcmcjfiaemchoaa
