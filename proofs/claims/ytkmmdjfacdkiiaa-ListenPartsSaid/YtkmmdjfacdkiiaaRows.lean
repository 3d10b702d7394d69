/-
  No cell of these rows narrows 'for every input' (looked for: loops, veiled, ifaces, maps, wideKeys, modest, calm, conditions, laid).
  DERIVED. THE GIVEN ROWS OF THIS SEAT. 5 by the template 'for every input the law returns true; each argument reads behind the call as it read before'; 0 by the template 'total and deterministic' (their statements: YtkmmdjfacdkiiaaTotals.lean).
  GIVEN WITH THE SEED: the statements are not yours to turn. If you find one false, say at which input.
  Laid BY PROGRAM, IN A SANDBOX (cutbox-rows.mjs): the forced cells as the released guide's own fill.sh prints them over the translation 94c62867ff72adb2… (all of the seat's roots in one cut). By AI agents, Wed Nov 11 2026. No macro, syntax, notation, axiom, sorry.
-/
import Derived.Test.YtkmmdjfacdkiiaaChecked
import GoSem.Claim
import GoSem.ClaimJoined
import GoSem.ClaimMapViews
import Derived.JoinedTies
import Derived.KernelRfl
namespace Go.Proofs.Ytkmmdjfacdkiiaa
/- THE CELL 'sum', in the pinned program and in every row, IS THE sha256 OF THE DUMP (.gsa) THAT YtkmmdjfacdkiiaaProg.lean LOADS. Nothing in Lean hashes anything: it is a label: what it is worth is what the hold of that sum in a sandbox is worth. -/
noncomputable def Try.pinned : Pinned := { name := "ytkmmdjfacdkiiaa", sum := "94c62867ff72adb233f4726950ac0e025c7d6f4fdef3f3f671704b53eae913ae", checked := Try.checked }
namespace Rows
def none {H : Type} : Left H := { results := [], args := [] }

/-- 'limelightlaw08.ListenTells': WHATEVER THE INPUT: true; the input reads as it did. -/
def listenTellsSpec : ChangeSpec := { name := "listenTells", fn := fun _ => fun
  | [d1, d2, d3] => { results := [.lit (.bool true)], args := [d1, d2, d3] }
  | _ => none }
def listenTellsRow : OpenClaim := { program := "ytkmmdjfacdkiiaa", sum := "94c62867ff72adb233f4726950ac0e025c7d6f4fdef3f3f671704b53eae913ae", func := "limelight/limelightlaw08.ListenTells", spec := "listenTells", unfollowed := true, recurses := true, apart := false }
def ListenTellsSaid : Prop := listenTellsRow.holds Try.pinned (OpenSpec.ofChange listenTellsSpec)

/-- ITS FALSE NEIGHBOUR: 'it returns false'. Refute it at one input. -/
def listenTellsWrong : ChangeSpec := { name := "listenTells", fn := fun _ => fun
  | [d1, d2, d3] => { results := [.lit (.bool false)], args := [d1, d2, d3] }
  | _ => none }
def ListenTellsWrongFalsely : Prop := listenTellsRow.holds Try.pinned (OpenSpec.ofChange listenTellsWrong)

/-- 'limelightlaw08.ListenFor': WHATEVER THE INPUT: true; the input reads as it did. -/
def listenForSpec : ChangeSpec := { name := "listenFor", fn := fun _ => fun
  | [d1, d2] => { results := [.lit (.bool true)], args := [d1, d2] }
  | _ => none }
def listenForRow : OpenClaim := { program := "ytkmmdjfacdkiiaa", sum := "94c62867ff72adb233f4726950ac0e025c7d6f4fdef3f3f671704b53eae913ae", func := "limelight/limelightlaw08.ListenFor", spec := "listenFor", unfollowed := true, recurses := true, apart := false }
def ListenForSaid : Prop := listenForRow.holds Try.pinned (OpenSpec.ofChange listenForSpec)

/-- ITS FALSE NEIGHBOUR: 'it returns false'. Refute it at one input. -/
def listenForWrong : ChangeSpec := { name := "listenFor", fn := fun _ => fun
  | [d1, d2] => { results := [.lit (.bool false)], args := [d1, d2] }
  | _ => none }
def ListenForWrongFalsely : Prop := listenForRow.holds Try.pinned (OpenSpec.ofChange listenForWrong)

/-- 'limelightlaw08.ListenOnce': WHATEVER THE INPUT: true; the input reads as it did. -/
def listenOnceSpec : ChangeSpec := { name := "listenOnce", fn := fun _ => fun
  | [d] => { results := [.lit (.bool true)], args := [d] }
  | _ => none }
def listenOnceRow : OpenClaim := { program := "ytkmmdjfacdkiiaa", sum := "94c62867ff72adb233f4726950ac0e025c7d6f4fdef3f3f671704b53eae913ae", func := "limelight/limelightlaw08.ListenOnce", spec := "listenOnce", unfollowed := true, recurses := true, apart := false }
def ListenOnceSaid : Prop := listenOnceRow.holds Try.pinned (OpenSpec.ofChange listenOnceSpec)

/-- ITS FALSE NEIGHBOUR: 'it returns false'. Refute it at one input. -/
def listenOnceWrong : ChangeSpec := { name := "listenOnce", fn := fun _ => fun
  | [d] => { results := [.lit (.bool false)], args := [d] }
  | _ => none }
def ListenOnceWrongFalsely : Prop := listenOnceRow.holds Try.pinned (OpenSpec.ofChange listenOnceWrong)

/-- 'limelightlaw08.ListenParts': WHATEVER THE INPUT: true; the input reads as it did. -/
def listenPartsSpec : ChangeSpec := { name := "listenParts", fn := fun _ => fun
  | [d] => { results := [.lit (.bool true)], args := [d] }
  | _ => none }
def listenPartsRow : OpenClaim := { program := "ytkmmdjfacdkiiaa", sum := "94c62867ff72adb233f4726950ac0e025c7d6f4fdef3f3f671704b53eae913ae", func := "limelight/limelightlaw08.ListenParts", spec := "listenParts", unfollowed := true, recurses := true, apart := false }
def ListenPartsSaid : Prop := listenPartsRow.holds Try.pinned (OpenSpec.ofChange listenPartsSpec)

/-- ITS FALSE NEIGHBOUR: 'it returns false'. Refute it at one input. -/
def listenPartsWrong : ChangeSpec := { name := "listenParts", fn := fun _ => fun
  | [d] => { results := [.lit (.bool false)], args := [d] }
  | _ => none }
def ListenPartsWrongFalsely : Prop := listenPartsRow.holds Try.pinned (OpenSpec.ofChange listenPartsWrong)

/-- 'limelightlaw08.ListenBack': WHATEVER THE INPUT: true; the input reads as it did. -/
def listenBackSpec : ChangeSpec := { name := "listenBack", fn := fun _ => fun
  | [d1, d2] => { results := [.lit (.bool true)], args := [d1, d2] }
  | _ => none }
def listenBackRow : OpenClaim := { program := "ytkmmdjfacdkiiaa", sum := "94c62867ff72adb233f4726950ac0e025c7d6f4fdef3f3f671704b53eae913ae", func := "limelight/limelightlaw08.ListenBack", spec := "listenBack", unfollowed := true, recurses := true, apart := false }
def ListenBackSaid : Prop := listenBackRow.holds Try.pinned (OpenSpec.ofChange listenBackSpec)

/-- ITS FALSE NEIGHBOUR: 'it returns false'. Refute it at one input. -/
def listenBackWrong : ChangeSpec := { name := "listenBack", fn := fun _ => fun
  | [d1, d2] => { results := [.lit (.bool false)], args := [d1, d2] }
  | _ => none }
def ListenBackWrongFalsely : Prop := listenBackRow.holds Try.pinned (OpenSpec.ofChange listenBackWrong)

/- THE SECOND FORM. 'bulk': how many values and letters a reading holds, each counted each time it is reached (what is shared counts as often as it is met; a slice's spare places count too). A statement '..UptoSaid' is the law's where the arguments, and the package variables that the reading takes, are together of bulk at most 1048576: NARROWER than '..Said'. Prove '..Said' where nothing that the law and all that it calls make is longer than what came in: it says more and counts as full. Else prove '..UptoSaid'. A law counts once. -/
mutual
def uptoBulk {H : Type} : DataW H → Nat
  | .lit (.string bytes) => bytes.length + 1
  | .lit _ => 1
  | .nil => 1
  | .ptr d => uptoBulk d + 1
  | .slice elems spare => uptoBulkAll elems + uptoBulkAll spare + 1
  | .agg parts => uptoBulkAll parts + 1
  | .iface _ d => uptoBulk d + 1
  | .map entries => uptoBulkEntries entries + 1
  | .held _ => 1
def uptoBulkAll {H : Type} : List (DataW H) → Nat
  | [] => 0
  | d :: r => uptoBulk d + uptoBulkAll r
def uptoBulkEntries {H : Type} : List (Lit × DataW H) → Nat
  | [] => 0
  | x :: r => uptoBulkEntry x + uptoBulkEntries r
def uptoBulkEntry {H : Type} : Lit × DataW H → Nat
  | (.string bytes, d) => bytes.length + uptoBulk d + 1
  | (_, d) => uptoBulk d + 1
 end
def uptoSmall : (H : Type) → List (DataW H) → Bool := fun _ ds => decide (uptoBulkAll ds ≤ 1048576)
def OpenSpec.upto (s : _root_.Go.ChangeSpec) : _root_.Go.OpenSpec := { _root_.Go.OpenSpec.ofChange s with cond := some uptoSmall }

/-- 'limelightlaw08.ListenTells', WHERE WHAT IT READS IS OF BULK AT MOST 1048576: true; the input reads as it did. -/
def listenTellsUptoRow : OpenClaim := { program := "ytkmmdjfacdkiiaa", sum := "94c62867ff72adb233f4726950ac0e025c7d6f4fdef3f3f671704b53eae913ae", func := "limelight/limelightlaw08.ListenTells", spec := "listenTells", unfollowed := true, recurses := true, apart := false, narrowed := true }
def ListenTellsUptoSaid : Prop := listenTellsUptoRow.holds Try.pinned (OpenSpec.upto listenTellsSpec)

/-- 'limelightlaw08.ListenFor', WHERE WHAT IT READS IS OF BULK AT MOST 1048576: true; the input reads as it did. -/
def listenForUptoRow : OpenClaim := { program := "ytkmmdjfacdkiiaa", sum := "94c62867ff72adb233f4726950ac0e025c7d6f4fdef3f3f671704b53eae913ae", func := "limelight/limelightlaw08.ListenFor", spec := "listenFor", unfollowed := true, recurses := true, apart := false, narrowed := true }
def ListenForUptoSaid : Prop := listenForUptoRow.holds Try.pinned (OpenSpec.upto listenForSpec)

/-- 'limelightlaw08.ListenOnce', WHERE WHAT IT READS IS OF BULK AT MOST 1048576: true; the input reads as it did. -/
def listenOnceUptoRow : OpenClaim := { program := "ytkmmdjfacdkiiaa", sum := "94c62867ff72adb233f4726950ac0e025c7d6f4fdef3f3f671704b53eae913ae", func := "limelight/limelightlaw08.ListenOnce", spec := "listenOnce", unfollowed := true, recurses := true, apart := false, narrowed := true }
def ListenOnceUptoSaid : Prop := listenOnceUptoRow.holds Try.pinned (OpenSpec.upto listenOnceSpec)

/-- 'limelightlaw08.ListenParts', WHERE WHAT IT READS IS OF BULK AT MOST 1048576: true; the input reads as it did. -/
def listenPartsUptoRow : OpenClaim := { program := "ytkmmdjfacdkiiaa", sum := "94c62867ff72adb233f4726950ac0e025c7d6f4fdef3f3f671704b53eae913ae", func := "limelight/limelightlaw08.ListenParts", spec := "listenParts", unfollowed := true, recurses := true, apart := false, narrowed := true }
def ListenPartsUptoSaid : Prop := listenPartsUptoRow.holds Try.pinned (OpenSpec.upto listenPartsSpec)

/-- 'limelightlaw08.ListenBack', WHERE WHAT IT READS IS OF BULK AT MOST 1048576: true; the input reads as it did. -/
def listenBackUptoRow : OpenClaim := { program := "ytkmmdjfacdkiiaa", sum := "94c62867ff72adb233f4726950ac0e025c7d6f4fdef3f3f671704b53eae913ae", func := "limelight/limelightlaw08.ListenBack", spec := "listenBack", unfollowed := true, recurses := true, apart := false, narrowed := true }
def ListenBackUptoSaid : Prop := listenBackUptoRow.holds Try.pinned (OpenSpec.upto listenBackSpec)

end Rows
end Go.Proofs.Ytkmmdjfacdkiiaa
