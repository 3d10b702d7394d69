/-
  No cell of these rows narrows 'for every input' (looked for: loops, veiled, ifaces, maps, wideKeys, modest, calm, conditions, laid).
  DERIVED. THE GIVEN ROWS OF THIS SEAT. 6 by the template 'for every input the law returns true; each argument reads behind the call as it read before'; 0 by the template 'total and deterministic' (their statements: YtfdhfnjdafaogaaTotals.lean).
  GIVEN WITH THE SEED: the statements are not yours to turn. If you find one false, say at which input.
  Laid BY PROGRAM, IN A SANDBOX (cutbox-rows.mjs): the forced cells as the released guide's own fill.sh prints them over the translation 92f2625f3432480d… (all of the seat's roots in one cut). By AI agents, Wed Nov 11 2026. No macro, syntax, notation, axiom, sorry.
-/
import Derived.Test.YtfdhfnjdafaogaaChecked
import GoSem.Claim
import GoSem.ClaimJoined
import GoSem.ClaimMapViews
import Derived.JoinedTies
import Derived.KernelRfl
namespace Go.Proofs.Ytfdhfnjdafaogaa
/- THE CELL 'sum', in the pinned program and in every row, IS THE sha256 OF THE DUMP (.gsa) THAT YtfdhfnjdafaogaaProg.lean LOADS. Nothing in Lean hashes anything: it is a label: what it is worth is what the hold of that sum in a sandbox is worth. -/
noncomputable def Try.pinned : Pinned := { name := "ytfdhfnjdafaogaa", sum := "92f2625f3432480dc8763ba60ed2067007d1d6b8a9768501d385f3c791caa3e7", checked := Try.checked }
namespace Rows
def none {H : Type} : Left H := { results := [], args := [] }

/-- 'limelightlaw06.FlatTells': WHATEVER THE INPUT: true; the input reads as it did. -/
def flatTellsSpec : ChangeSpec := { name := "flatTells", fn := fun _ => fun
  | [d1, d2, d3] => { results := [.lit (.bool true)], args := [d1, d2, d3] }
  | _ => none }
def flatTellsRow : OpenClaim := { program := "ytfdhfnjdafaogaa", sum := "92f2625f3432480dc8763ba60ed2067007d1d6b8a9768501d385f3c791caa3e7", func := "limelight/limelightlaw06.FlatTells", spec := "flatTells", unfollowed := true, recurses := true, apart := false }
def FlatTellsSaid : Prop := flatTellsRow.holds Try.pinned (OpenSpec.ofChange flatTellsSpec)

/-- ITS FALSE NEIGHBOUR: 'it returns false'. Refute it at one input. -/
def flatTellsWrong : ChangeSpec := { name := "flatTells", fn := fun _ => fun
  | [d1, d2, d3] => { results := [.lit (.bool false)], args := [d1, d2, d3] }
  | _ => none }
def FlatTellsWrongFalsely : Prop := flatTellsRow.holds Try.pinned (OpenSpec.ofChange flatTellsWrong)

/-- 'limelightlaw06.FlatList': WHATEVER THE INPUT: true; the input reads as it did. -/
def flatListSpec : ChangeSpec := { name := "flatList", fn := fun _ => fun
  | [d] => { results := [.lit (.bool true)], args := [d] }
  | _ => none }
def flatListRow : OpenClaim := { program := "ytfdhfnjdafaogaa", sum := "92f2625f3432480dc8763ba60ed2067007d1d6b8a9768501d385f3c791caa3e7", func := "limelight/limelightlaw06.FlatList", spec := "flatList", unfollowed := true, recurses := true, apart := false }
def FlatListSaid : Prop := flatListRow.holds Try.pinned (OpenSpec.ofChange flatListSpec)

/-- ITS FALSE NEIGHBOUR: 'it returns false'. Refute it at one input. -/
def flatListWrong : ChangeSpec := { name := "flatList", fn := fun _ => fun
  | [d] => { results := [.lit (.bool false)], args := [d] }
  | _ => none }
def FlatListWrongFalsely : Prop := flatListRow.holds Try.pinned (OpenSpec.ofChange flatListWrong)

/-- 'limelightlaw06.FlatOnce': WHATEVER THE INPUT: true; the input reads as it did. -/
def flatOnceSpec : ChangeSpec := { name := "flatOnce", fn := fun _ => fun
  | [d] => { results := [.lit (.bool true)], args := [d] }
  | _ => none }
def flatOnceRow : OpenClaim := { program := "ytfdhfnjdafaogaa", sum := "92f2625f3432480dc8763ba60ed2067007d1d6b8a9768501d385f3c791caa3e7", func := "limelight/limelightlaw06.FlatOnce", spec := "flatOnce", unfollowed := true, recurses := true, apart := false }
def FlatOnceSaid : Prop := flatOnceRow.holds Try.pinned (OpenSpec.ofChange flatOnceSpec)

/-- ITS FALSE NEIGHBOUR: 'it returns false'. Refute it at one input. -/
def flatOnceWrong : ChangeSpec := { name := "flatOnce", fn := fun _ => fun
  | [d] => { results := [.lit (.bool false)], args := [d] }
  | _ => none }
def FlatOnceWrongFalsely : Prop := flatOnceRow.holds Try.pinned (OpenSpec.ofChange flatOnceWrong)

/-- 'limelightlaw06.FlatUp': WHATEVER THE INPUT: true; the input reads as it did. -/
def flatUpSpec : ChangeSpec := { name := "flatUp", fn := fun _ => fun
  | [d1, d2] => { results := [.lit (.bool true)], args := [d1, d2] }
  | _ => none }
def flatUpRow : OpenClaim := { program := "ytfdhfnjdafaogaa", sum := "92f2625f3432480dc8763ba60ed2067007d1d6b8a9768501d385f3c791caa3e7", func := "limelight/limelightlaw06.FlatUp", spec := "flatUp", unfollowed := true, recurses := true, apart := false }
def FlatUpSaid : Prop := flatUpRow.holds Try.pinned (OpenSpec.ofChange flatUpSpec)

/-- ITS FALSE NEIGHBOUR: 'it returns false'. Refute it at one input. -/
def flatUpWrong : ChangeSpec := { name := "flatUp", fn := fun _ => fun
  | [d1, d2] => { results := [.lit (.bool false)], args := [d1, d2] }
  | _ => none }
def FlatUpWrongFalsely : Prop := flatUpRow.holds Try.pinned (OpenSpec.ofChange flatUpWrong)

/-- 'limelightlaw06.FlatPlain': WHATEVER THE INPUT: true; the input reads as it did. -/
def flatPlainSpec : ChangeSpec := { name := "flatPlain", fn := fun _ => fun
  | [d] => { results := [.lit (.bool true)], args := [d] }
  | _ => none }
def flatPlainRow : OpenClaim := { program := "ytfdhfnjdafaogaa", sum := "92f2625f3432480dc8763ba60ed2067007d1d6b8a9768501d385f3c791caa3e7", func := "limelight/limelightlaw06.FlatPlain", spec := "flatPlain", unfollowed := true, recurses := true, apart := false }
def FlatPlainSaid : Prop := flatPlainRow.holds Try.pinned (OpenSpec.ofChange flatPlainSpec)

/-- ITS FALSE NEIGHBOUR: 'it returns false'. Refute it at one input. -/
def flatPlainWrong : ChangeSpec := { name := "flatPlain", fn := fun _ => fun
  | [d] => { results := [.lit (.bool false)], args := [d] }
  | _ => none }
def FlatPlainWrongFalsely : Prop := flatPlainRow.holds Try.pinned (OpenSpec.ofChange flatPlainWrong)

/-- 'limelightlaw06.FlatHosts': WHATEVER THE INPUT: true; the input reads as it did. -/
def flatHostsSpec : ChangeSpec := { name := "flatHosts", fn := fun _ => fun
  | [d] => { results := [.lit (.bool true)], args := [d] }
  | _ => none }
def flatHostsRow : OpenClaim := { program := "ytfdhfnjdafaogaa", sum := "92f2625f3432480dc8763ba60ed2067007d1d6b8a9768501d385f3c791caa3e7", func := "limelight/limelightlaw06.FlatHosts", spec := "flatHosts", unfollowed := true, recurses := true, apart := false }
def FlatHostsSaid : Prop := flatHostsRow.holds Try.pinned (OpenSpec.ofChange flatHostsSpec)

/-- ITS FALSE NEIGHBOUR: 'it returns false'. Refute it at one input. -/
def flatHostsWrong : ChangeSpec := { name := "flatHosts", fn := fun _ => fun
  | [d] => { results := [.lit (.bool false)], args := [d] }
  | _ => none }
def FlatHostsWrongFalsely : Prop := flatHostsRow.holds Try.pinned (OpenSpec.ofChange flatHostsWrong)

/- THE SECOND FORM. 'bulk': how many values and letters a reading holds, each counted each time it is reached (what is shared counts as often as it is met; a slice's spare places count too). A statement '..UptoSaid' is the law's where the arguments, and the package variables that the reading takes, are together of bulk at most 1048576: NARROWER than '..Said'. Prove '..Said' where nothing that the law and all that it calls make is longer than what came in: it says more and counts as full. Else prove '..UptoSaid'. A law counts once. -/
mutual
def uptoBulk {H : Type} : DataW H → Nat
  | .lit (.string bytes) => bytes.length + 1
  | .lit _ => 1
  | .nil => 1
  | .ptr d => uptoBulk d + 1
  | .slice elems spare => uptoBulkAll elems + uptoBulkAll spare + 1
  | .agg parts => uptoBulkAll parts + 1
  | .iface _ d => uptoBulk d + 1
  | .map entries => uptoBulkEntries entries + 1
  | .held _ => 1
def uptoBulkAll {H : Type} : List (DataW H) → Nat
  | [] => 0
  | d :: r => uptoBulk d + uptoBulkAll r
def uptoBulkEntries {H : Type} : List (Lit × DataW H) → Nat
  | [] => 0
  | x :: r => uptoBulkEntry x + uptoBulkEntries r
def uptoBulkEntry {H : Type} : Lit × DataW H → Nat
  | (.string bytes, d) => bytes.length + uptoBulk d + 1
  | (_, d) => uptoBulk d + 1
 end
def uptoSmall : (H : Type) → List (DataW H) → Bool := fun _ ds => decide (uptoBulkAll ds ≤ 1048576)
def OpenSpec.upto (s : _root_.Go.ChangeSpec) : _root_.Go.OpenSpec := { _root_.Go.OpenSpec.ofChange s with cond := some uptoSmall }

/-- 'limelightlaw06.FlatTells', WHERE WHAT IT READS IS OF BULK AT MOST 1048576: true; the input reads as it did. -/
def flatTellsUptoRow : OpenClaim := { program := "ytfdhfnjdafaogaa", sum := "92f2625f3432480dc8763ba60ed2067007d1d6b8a9768501d385f3c791caa3e7", func := "limelight/limelightlaw06.FlatTells", spec := "flatTells", unfollowed := true, recurses := true, apart := false, narrowed := true }
def FlatTellsUptoSaid : Prop := flatTellsUptoRow.holds Try.pinned (OpenSpec.upto flatTellsSpec)

/-- 'limelightlaw06.FlatList', WHERE WHAT IT READS IS OF BULK AT MOST 1048576: true; the input reads as it did. -/
def flatListUptoRow : OpenClaim := { program := "ytfdhfnjdafaogaa", sum := "92f2625f3432480dc8763ba60ed2067007d1d6b8a9768501d385f3c791caa3e7", func := "limelight/limelightlaw06.FlatList", spec := "flatList", unfollowed := true, recurses := true, apart := false, narrowed := true }
def FlatListUptoSaid : Prop := flatListUptoRow.holds Try.pinned (OpenSpec.upto flatListSpec)

/-- 'limelightlaw06.FlatOnce', WHERE WHAT IT READS IS OF BULK AT MOST 1048576: true; the input reads as it did. -/
def flatOnceUptoRow : OpenClaim := { program := "ytfdhfnjdafaogaa", sum := "92f2625f3432480dc8763ba60ed2067007d1d6b8a9768501d385f3c791caa3e7", func := "limelight/limelightlaw06.FlatOnce", spec := "flatOnce", unfollowed := true, recurses := true, apart := false, narrowed := true }
def FlatOnceUptoSaid : Prop := flatOnceUptoRow.holds Try.pinned (OpenSpec.upto flatOnceSpec)

/-- 'limelightlaw06.FlatUp', WHERE WHAT IT READS IS OF BULK AT MOST 1048576: true; the input reads as it did. -/
def flatUpUptoRow : OpenClaim := { program := "ytfdhfnjdafaogaa", sum := "92f2625f3432480dc8763ba60ed2067007d1d6b8a9768501d385f3c791caa3e7", func := "limelight/limelightlaw06.FlatUp", spec := "flatUp", unfollowed := true, recurses := true, apart := false, narrowed := true }
def FlatUpUptoSaid : Prop := flatUpUptoRow.holds Try.pinned (OpenSpec.upto flatUpSpec)

/-- 'limelightlaw06.FlatPlain', WHERE WHAT IT READS IS OF BULK AT MOST 1048576: true; the input reads as it did. -/
def flatPlainUptoRow : OpenClaim := { program := "ytfdhfnjdafaogaa", sum := "92f2625f3432480dc8763ba60ed2067007d1d6b8a9768501d385f3c791caa3e7", func := "limelight/limelightlaw06.FlatPlain", spec := "flatPlain", unfollowed := true, recurses := true, apart := false, narrowed := true }
def FlatPlainUptoSaid : Prop := flatPlainUptoRow.holds Try.pinned (OpenSpec.upto flatPlainSpec)

/-- 'limelightlaw06.FlatHosts', WHERE WHAT IT READS IS OF BULK AT MOST 1048576: true; the input reads as it did. -/
def flatHostsUptoRow : OpenClaim := { program := "ytfdhfnjdafaogaa", sum := "92f2625f3432480dc8763ba60ed2067007d1d6b8a9768501d385f3c791caa3e7", func := "limelight/limelightlaw06.FlatHosts", spec := "flatHosts", unfollowed := true, recurses := true, apart := false, narrowed := true }
def FlatHostsUptoSaid : Prop := flatHostsUptoRow.holds Try.pinned (OpenSpec.upto flatHostsSpec)

end Rows
end Go.Proofs.Ytfdhfnjdafaogaa
