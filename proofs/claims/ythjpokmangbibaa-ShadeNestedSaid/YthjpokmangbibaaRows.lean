/-
  No cell of these rows narrows 'for every input' (looked for: loops, veiled, ifaces, maps, wideKeys, modest, calm, conditions, laid).
  DERIVED. THE GIVEN ROWS OF THIS SEAT. 5 by the template 'for every input the law returns true; each argument reads behind the call as it read before'; 0 by the template 'total and deterministic' (their statements: YthjpokmangbibaaTotals.lean).
  GIVEN WITH THE SEED: the statements are not yours to turn. If you find one false, say at which input.
  Laid BY PROGRAM, IN A SANDBOX (cutbox-rows.mjs): the forced cells as the released guide's own fill.sh prints them over the translation 60ba66c416548abf… (all of the seat's roots in one cut). By AI agents, Wed Nov 11 2026. No macro, syntax, notation, axiom, sorry.
-/
import Derived.Test.YthjpokmangbibaaChecked
import GoSem.Claim
import GoSem.ClaimJoined
import GoSem.ClaimMapViews
import Derived.JoinedTies
import Derived.KernelRfl
namespace Go.Proofs.Ythjpokmangbibaa
/- THE CELL 'sum', in the pinned program and in every row, IS THE sha256 OF THE DUMP (.gsa) THAT YthjpokmangbibaaProg.lean LOADS. Nothing in Lean hashes anything: it is a label: what it is worth is what the hold of that sum in a sandbox is worth. -/
noncomputable def Try.pinned : Pinned := { name := "ythjpokmangbibaa", sum := "60ba66c416548abf5e06f5f9d296957a8fd637a0af175d38dbad60910dd47b70", checked := Try.checked }
namespace Rows
def none {H : Type} : Left H := { results := [], args := [] }

/-- 'limelightlaw04.ShadeTells': WHATEVER THE INPUT: true; the input reads as it did. -/
def shadeTellsSpec : ChangeSpec := { name := "shadeTells", fn := fun _ => fun
  | [d1, d2, d3] => { results := [.lit (.bool true)], args := [d1, d2, d3] }
  | _ => none }
def shadeTellsRow : OpenClaim := { program := "ythjpokmangbibaa", sum := "60ba66c416548abf5e06f5f9d296957a8fd637a0af175d38dbad60910dd47b70", func := "limelight/limelightlaw04.ShadeTells", spec := "shadeTells", unfollowed := true, recurses := true, apart := false }
def ShadeTellsSaid : Prop := shadeTellsRow.holds Try.pinned (OpenSpec.ofChange shadeTellsSpec)

/-- ITS FALSE NEIGHBOUR: 'it returns false'. Refute it at one input. -/
def shadeTellsWrong : ChangeSpec := { name := "shadeTells", fn := fun _ => fun
  | [d1, d2, d3] => { results := [.lit (.bool false)], args := [d1, d2, d3] }
  | _ => none }
def ShadeTellsWrongFalsely : Prop := shadeTellsRow.holds Try.pinned (OpenSpec.ofChange shadeTellsWrong)

/-- 'limelightlaw04.ShadeRetargets': WHATEVER THE INPUT: true; the input reads as it did. -/
def shadeRetargetsSpec : ChangeSpec := { name := "shadeRetargets", fn := fun _ => fun
  | [d1, d2, d3] => { results := [.lit (.bool true)], args := [d1, d2, d3] }
  | _ => none }
def shadeRetargetsRow : OpenClaim := { program := "ythjpokmangbibaa", sum := "60ba66c416548abf5e06f5f9d296957a8fd637a0af175d38dbad60910dd47b70", func := "limelight/limelightlaw04.ShadeRetargets", spec := "shadeRetargets", unfollowed := true, recurses := true, apart := false }
def ShadeRetargetsSaid : Prop := shadeRetargetsRow.holds Try.pinned (OpenSpec.ofChange shadeRetargetsSpec)

/-- ITS FALSE NEIGHBOUR: 'it returns false'. Refute it at one input. -/
def shadeRetargetsWrong : ChangeSpec := { name := "shadeRetargets", fn := fun _ => fun
  | [d1, d2, d3] => { results := [.lit (.bool false)], args := [d1, d2, d3] }
  | _ => none }
def ShadeRetargetsWrongFalsely : Prop := shadeRetargetsRow.holds Try.pinned (OpenSpec.ofChange shadeRetargetsWrong)

/-- 'limelightlaw04.ShadeList': WHATEVER THE INPUT: true; the input reads as it did. -/
def shadeListSpec : ChangeSpec := { name := "shadeList", fn := fun _ => fun
  | [d1, d2] => { results := [.lit (.bool true)], args := [d1, d2] }
  | _ => none }
def shadeListRow : OpenClaim := { program := "ythjpokmangbibaa", sum := "60ba66c416548abf5e06f5f9d296957a8fd637a0af175d38dbad60910dd47b70", func := "limelight/limelightlaw04.ShadeList", spec := "shadeList", unfollowed := true, recurses := true, apart := false }
def ShadeListSaid : Prop := shadeListRow.holds Try.pinned (OpenSpec.ofChange shadeListSpec)

/-- ITS FALSE NEIGHBOUR: 'it returns false'. Refute it at one input. -/
def shadeListWrong : ChangeSpec := { name := "shadeList", fn := fun _ => fun
  | [d1, d2] => { results := [.lit (.bool false)], args := [d1, d2] }
  | _ => none }
def ShadeListWrongFalsely : Prop := shadeListRow.holds Try.pinned (OpenSpec.ofChange shadeListWrong)

/-- 'limelightlaw04.ShadeLaws': WHATEVER THE INPUT: true; the input reads as it did. -/
def shadeLawsSpec : ChangeSpec := { name := "shadeLaws", fn := fun _ => fun
  | [d1, d2] => { results := [.lit (.bool true)], args := [d1, d2] }
  | _ => none }
def shadeLawsRow : OpenClaim := { program := "ythjpokmangbibaa", sum := "60ba66c416548abf5e06f5f9d296957a8fd637a0af175d38dbad60910dd47b70", func := "limelight/limelightlaw04.ShadeLaws", spec := "shadeLaws", unfollowed := true, recurses := true, apart := false }
def ShadeLawsSaid : Prop := shadeLawsRow.holds Try.pinned (OpenSpec.ofChange shadeLawsSpec)

/-- ITS FALSE NEIGHBOUR: 'it returns false'. Refute it at one input. -/
def shadeLawsWrong : ChangeSpec := { name := "shadeLaws", fn := fun _ => fun
  | [d1, d2] => { results := [.lit (.bool false)], args := [d1, d2] }
  | _ => none }
def ShadeLawsWrongFalsely : Prop := shadeLawsRow.holds Try.pinned (OpenSpec.ofChange shadeLawsWrong)

/-- 'limelightlaw04.ShadeNested': WHATEVER THE INPUT: true; the input reads as it did. -/
def shadeNestedSpec : ChangeSpec := { name := "shadeNested", fn := fun _ => fun
  | [d1, d2] => { results := [.lit (.bool true)], args := [d1, d2] }
  | _ => none }
def shadeNestedRow : OpenClaim := { program := "ythjpokmangbibaa", sum := "60ba66c416548abf5e06f5f9d296957a8fd637a0af175d38dbad60910dd47b70", func := "limelight/limelightlaw04.ShadeNested", spec := "shadeNested", unfollowed := true, recurses := true, apart := false }
def ShadeNestedSaid : Prop := shadeNestedRow.holds Try.pinned (OpenSpec.ofChange shadeNestedSpec)

/-- ITS FALSE NEIGHBOUR: 'it returns false'. Refute it at one input. -/
def shadeNestedWrong : ChangeSpec := { name := "shadeNested", fn := fun _ => fun
  | [d1, d2] => { results := [.lit (.bool false)], args := [d1, d2] }
  | _ => none }
def ShadeNestedWrongFalsely : Prop := shadeNestedRow.holds Try.pinned (OpenSpec.ofChange shadeNestedWrong)

/- THE SECOND FORM. 'bulk': how many values and letters a reading holds, each counted each time it is reached (what is shared counts as often as it is met; a slice's spare places count too). A statement '..UptoSaid' is the law's where the arguments, and the package variables that the reading takes, are together of bulk at most 1048576: NARROWER than '..Said'. Prove '..Said' where nothing that the law and all that it calls make is longer than what came in: it says more and counts as full. Else prove '..UptoSaid'. A law counts once. -/
mutual
def uptoBulk {H : Type} : DataW H → Nat
  | .lit (.string bytes) => bytes.length + 1
  | .lit _ => 1
  | .nil => 1
  | .ptr d => uptoBulk d + 1
  | .slice elems spare => uptoBulkAll elems + uptoBulkAll spare + 1
  | .agg parts => uptoBulkAll parts + 1
  | .iface _ d => uptoBulk d + 1
  | .map entries => uptoBulkEntries entries + 1
  | .held _ => 1
def uptoBulkAll {H : Type} : List (DataW H) → Nat
  | [] => 0
  | d :: r => uptoBulk d + uptoBulkAll r
def uptoBulkEntries {H : Type} : List (Lit × DataW H) → Nat
  | [] => 0
  | x :: r => uptoBulkEntry x + uptoBulkEntries r
def uptoBulkEntry {H : Type} : Lit × DataW H → Nat
  | (.string bytes, d) => bytes.length + uptoBulk d + 1
  | (_, d) => uptoBulk d + 1
 end
def uptoSmall : (H : Type) → List (DataW H) → Bool := fun _ ds => decide (uptoBulkAll ds ≤ 1048576)
def OpenSpec.upto (s : _root_.Go.ChangeSpec) : _root_.Go.OpenSpec := { _root_.Go.OpenSpec.ofChange s with cond := some uptoSmall }

/-- 'limelightlaw04.ShadeTells', WHERE WHAT IT READS IS OF BULK AT MOST 1048576: true; the input reads as it did. -/
def shadeTellsUptoRow : OpenClaim := { program := "ythjpokmangbibaa", sum := "60ba66c416548abf5e06f5f9d296957a8fd637a0af175d38dbad60910dd47b70", func := "limelight/limelightlaw04.ShadeTells", spec := "shadeTells", unfollowed := true, recurses := true, apart := false, narrowed := true }
def ShadeTellsUptoSaid : Prop := shadeTellsUptoRow.holds Try.pinned (OpenSpec.upto shadeTellsSpec)

/-- 'limelightlaw04.ShadeRetargets', WHERE WHAT IT READS IS OF BULK AT MOST 1048576: true; the input reads as it did. -/
def shadeRetargetsUptoRow : OpenClaim := { program := "ythjpokmangbibaa", sum := "60ba66c416548abf5e06f5f9d296957a8fd637a0af175d38dbad60910dd47b70", func := "limelight/limelightlaw04.ShadeRetargets", spec := "shadeRetargets", unfollowed := true, recurses := true, apart := false, narrowed := true }
def ShadeRetargetsUptoSaid : Prop := shadeRetargetsUptoRow.holds Try.pinned (OpenSpec.upto shadeRetargetsSpec)

/-- 'limelightlaw04.ShadeList', WHERE WHAT IT READS IS OF BULK AT MOST 1048576: true; the input reads as it did. -/
def shadeListUptoRow : OpenClaim := { program := "ythjpokmangbibaa", sum := "60ba66c416548abf5e06f5f9d296957a8fd637a0af175d38dbad60910dd47b70", func := "limelight/limelightlaw04.ShadeList", spec := "shadeList", unfollowed := true, recurses := true, apart := false, narrowed := true }
def ShadeListUptoSaid : Prop := shadeListUptoRow.holds Try.pinned (OpenSpec.upto shadeListSpec)

/-- 'limelightlaw04.ShadeLaws', WHERE WHAT IT READS IS OF BULK AT MOST 1048576: true; the input reads as it did. -/
def shadeLawsUptoRow : OpenClaim := { program := "ythjpokmangbibaa", sum := "60ba66c416548abf5e06f5f9d296957a8fd637a0af175d38dbad60910dd47b70", func := "limelight/limelightlaw04.ShadeLaws", spec := "shadeLaws", unfollowed := true, recurses := true, apart := false, narrowed := true }
def ShadeLawsUptoSaid : Prop := shadeLawsUptoRow.holds Try.pinned (OpenSpec.upto shadeLawsSpec)

/-- 'limelightlaw04.ShadeNested', WHERE WHAT IT READS IS OF BULK AT MOST 1048576: true; the input reads as it did. -/
def shadeNestedUptoRow : OpenClaim := { program := "ythjpokmangbibaa", sum := "60ba66c416548abf5e06f5f9d296957a8fd637a0af175d38dbad60910dd47b70", func := "limelight/limelightlaw04.ShadeNested", spec := "shadeNested", unfollowed := true, recurses := true, apart := false, narrowed := true }
def ShadeNestedUptoSaid : Prop := shadeNestedUptoRow.holds Try.pinned (OpenSpec.upto shadeNestedSpec)

end Rows
end Go.Proofs.Ythjpokmangbibaa
