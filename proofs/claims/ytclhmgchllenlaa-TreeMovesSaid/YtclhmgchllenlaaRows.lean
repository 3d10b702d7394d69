/-
  No cell of these rows narrows 'for every input' (looked for: loops, veiled, ifaces, maps, wideKeys, modest, calm, conditions, laid).
  DERIVED. THE GIVEN ROWS OF THIS SEAT. 6 by the template 'for every input the law returns true; each argument reads behind the call as it read before'; 0 by the template 'total and deterministic' (their statements: YtclhmgchllenlaaTotals.lean).
  GIVEN WITH THE SEED: the statements are not yours to turn. If you find one false, say at which input.
  Laid BY PROGRAM, IN A SANDBOX (cutbox-rows.mjs): the forced cells as the released guide's own fill.sh prints them over the translation f2b572aeb48b0c8c… (all of the seat's roots in one cut). By AI agents, Wed Nov 11 2026. No macro, syntax, notation, axiom, sorry.
-/
import Derived.Test.YtclhmgchllenlaaChecked
import GoSem.Claim
import GoSem.ClaimJoined
import GoSem.ClaimMapViews
import Derived.JoinedTies
import Derived.KernelRfl
namespace Go.Proofs.Ytclhmgchllenlaa
/- THE CELL 'sum', in the pinned program and in every row, IS THE sha256 OF THE DUMP (.gsa) THAT YtclhmgchllenlaaProg.lean LOADS. Nothing in Lean hashes anything: it is a label: what it is worth is what the hold of that sum in a sandbox is worth. -/
noncomputable def Try.pinned : Pinned := { name := "ytclhmgchllenlaa", sum := "f2b572aeb48b0c8c2c0cfb399d1c96cc6fe39cac0624c0437edae9cae2dc80bf", checked := Try.checked }
namespace Rows
def none {H : Type} : Left H := { results := [], args := [] }

/-- 'limelightlaw01.TreeMakes': WHATEVER THE INPUT: true; the input reads as it did. -/
def treeMakesSpec : ChangeSpec := { name := "treeMakes", fn := fun _ => fun
  | [d1, d2, d3] => { results := [.lit (.bool true)], args := [d1, d2, d3] }
  | _ => none }
def treeMakesRow : OpenClaim := { program := "ytclhmgchllenlaa", sum := "f2b572aeb48b0c8c2c0cfb399d1c96cc6fe39cac0624c0437edae9cae2dc80bf", func := "limelight/limelightlaw01.TreeMakes", spec := "treeMakes", inPlace := ["slices.overlaps[int]"], unfollowed := true, recurses := true, apart := false }
def TreeMakesSaid : Prop := treeMakesRow.holds Try.pinned (OpenSpec.ofChange treeMakesSpec)

/-- ITS FALSE NEIGHBOUR: 'it returns false'. Refute it at one input. -/
def treeMakesWrong : ChangeSpec := { name := "treeMakes", fn := fun _ => fun
  | [d1, d2, d3] => { results := [.lit (.bool false)], args := [d1, d2, d3] }
  | _ => none }
def TreeMakesWrongFalsely : Prop := treeMakesRow.holds Try.pinned (OpenSpec.ofChange treeMakesWrong)

/-- 'limelightlaw01.TreeMoves': WHATEVER THE INPUT: true; the input reads as it did. -/
def treeMovesSpec : ChangeSpec := { name := "treeMoves", fn := fun _ => fun
  | [d1, d2] => { results := [.lit (.bool true)], args := [d1, d2] }
  | _ => none }
def treeMovesRow : OpenClaim := { program := "ytclhmgchllenlaa", sum := "f2b572aeb48b0c8c2c0cfb399d1c96cc6fe39cac0624c0437edae9cae2dc80bf", func := "limelight/limelightlaw01.TreeMoves", spec := "treeMoves", inPlace := ["slices.overlaps[int]"], unfollowed := true, recurses := true, apart := false }
def TreeMovesSaid : Prop := treeMovesRow.holds Try.pinned (OpenSpec.ofChange treeMovesSpec)

/-- ITS FALSE NEIGHBOUR: 'it returns false'. Refute it at one input. -/
def treeMovesWrong : ChangeSpec := { name := "treeMoves", fn := fun _ => fun
  | [d1, d2] => { results := [.lit (.bool false)], args := [d1, d2] }
  | _ => none }
def TreeMovesWrongFalsely : Prop := treeMovesRow.holds Try.pinned (OpenSpec.ofChange treeMovesWrong)

/-- 'limelightlaw01.TreeStays': WHATEVER THE INPUT: true; the input reads as it did. -/
def treeStaysSpec : ChangeSpec := { name := "treeStays", fn := fun _ => fun
  | [d] => { results := [.lit (.bool true)], args := [d] }
  | _ => none }
def treeStaysRow : OpenClaim := { program := "ytclhmgchllenlaa", sum := "f2b572aeb48b0c8c2c0cfb399d1c96cc6fe39cac0624c0437edae9cae2dc80bf", func := "limelight/limelightlaw01.TreeStays", spec := "treeStays", inPlace := ["slices.overlaps[int]"], unfollowed := true, recurses := true, apart := false }
def TreeStaysSaid : Prop := treeStaysRow.holds Try.pinned (OpenSpec.ofChange treeStaysSpec)

/-- ITS FALSE NEIGHBOUR: 'it returns false'. Refute it at one input. -/
def treeStaysWrong : ChangeSpec := { name := "treeStays", fn := fun _ => fun
  | [d] => { results := [.lit (.bool false)], args := [d] }
  | _ => none }
def TreeStaysWrongFalsely : Prop := treeStaysRow.holds Try.pinned (OpenSpec.ofChange treeStaysWrong)

/-- 'limelightlaw01.TreeBack': WHATEVER THE INPUT: true; the input reads as it did. -/
def treeBackSpec : ChangeSpec := { name := "treeBack", fn := fun _ => fun
  | [d1, d2] => { results := [.lit (.bool true)], args := [d1, d2] }
  | _ => none }
def treeBackRow : OpenClaim := { program := "ytclhmgchllenlaa", sum := "f2b572aeb48b0c8c2c0cfb399d1c96cc6fe39cac0624c0437edae9cae2dc80bf", func := "limelight/limelightlaw01.TreeBack", spec := "treeBack", inPlace := ["slices.overlaps[int]"], unfollowed := true, recurses := true, apart := false }
def TreeBackSaid : Prop := treeBackRow.holds Try.pinned (OpenSpec.ofChange treeBackSpec)

/-- ITS FALSE NEIGHBOUR: 'it returns false'. Refute it at one input. -/
def treeBackWrong : ChangeSpec := { name := "treeBack", fn := fun _ => fun
  | [d1, d2] => { results := [.lit (.bool false)], args := [d1, d2] }
  | _ => none }
def TreeBackWrongFalsely : Prop := treeBackRow.holds Try.pinned (OpenSpec.ofChange treeBackWrong)

/-- 'limelightlaw01.TreeOnce': WHATEVER THE INPUT: true; the input reads as it did. -/
def treeOnceSpec : ChangeSpec := { name := "treeOnce", fn := fun _ => fun
  | [d] => { results := [.lit (.bool true)], args := [d] }
  | _ => none }
def treeOnceRow : OpenClaim := { program := "ytclhmgchllenlaa", sum := "f2b572aeb48b0c8c2c0cfb399d1c96cc6fe39cac0624c0437edae9cae2dc80bf", func := "limelight/limelightlaw01.TreeOnce", spec := "treeOnce", inPlace := ["slices.overlaps[int]"], unfollowed := true, recurses := true, apart := false }
def TreeOnceSaid : Prop := treeOnceRow.holds Try.pinned (OpenSpec.ofChange treeOnceSpec)

/-- ITS FALSE NEIGHBOUR: 'it returns false'. Refute it at one input. -/
def treeOnceWrong : ChangeSpec := { name := "treeOnce", fn := fun _ => fun
  | [d] => { results := [.lit (.bool false)], args := [d] }
  | _ => none }
def TreeOnceWrongFalsely : Prop := treeOnceRow.holds Try.pinned (OpenSpec.ofChange treeOnceWrong)

/-- 'limelightlaw01.TreeKeeps': WHATEVER THE INPUT: true; the input reads as it did. -/
def treeKeepsSpec : ChangeSpec := { name := "treeKeeps", fn := fun _ => fun
  | [d1, d2] => { results := [.lit (.bool true)], args := [d1, d2] }
  | _ => none }
def treeKeepsRow : OpenClaim := { program := "ytclhmgchllenlaa", sum := "f2b572aeb48b0c8c2c0cfb399d1c96cc6fe39cac0624c0437edae9cae2dc80bf", func := "limelight/limelightlaw01.TreeKeeps", spec := "treeKeeps", inPlace := ["slices.overlaps[int]"], unfollowed := true, recurses := true, apart := false }
def TreeKeepsSaid : Prop := treeKeepsRow.holds Try.pinned (OpenSpec.ofChange treeKeepsSpec)

/-- ITS FALSE NEIGHBOUR: 'it returns false'. Refute it at one input. -/
def treeKeepsWrong : ChangeSpec := { name := "treeKeeps", fn := fun _ => fun
  | [d1, d2] => { results := [.lit (.bool false)], args := [d1, d2] }
  | _ => none }
def TreeKeepsWrongFalsely : Prop := treeKeepsRow.holds Try.pinned (OpenSpec.ofChange treeKeepsWrong)

/- THE SECOND FORM. 'bulk': how many values and letters a reading holds, each counted each time it is reached (what is shared counts as often as it is met; a slice's spare places count too). A statement '..UptoSaid' is the law's where the arguments, and the package variables that the reading takes, are together of bulk at most 1048576: NARROWER than '..Said'. Prove '..Said' where nothing that the law and all that it calls make is longer than what came in: it says more and counts as full. Else prove '..UptoSaid'. A law counts once. -/
mutual
def uptoBulk {H : Type} : DataW H → Nat
  | .lit (.string bytes) => bytes.length + 1
  | .lit _ => 1
  | .nil => 1
  | .ptr d => uptoBulk d + 1
  | .slice elems spare => uptoBulkAll elems + uptoBulkAll spare + 1
  | .agg parts => uptoBulkAll parts + 1
  | .iface _ d => uptoBulk d + 1
  | .map entries => uptoBulkEntries entries + 1
  | .held _ => 1
def uptoBulkAll {H : Type} : List (DataW H) → Nat
  | [] => 0
  | d :: r => uptoBulk d + uptoBulkAll r
def uptoBulkEntries {H : Type} : List (Lit × DataW H) → Nat
  | [] => 0
  | x :: r => uptoBulkEntry x + uptoBulkEntries r
def uptoBulkEntry {H : Type} : Lit × DataW H → Nat
  | (.string bytes, d) => bytes.length + uptoBulk d + 1
  | (_, d) => uptoBulk d + 1
 end
def uptoSmall : (H : Type) → List (DataW H) → Bool := fun _ ds => decide (uptoBulkAll ds ≤ 1048576)
def OpenSpec.upto (s : _root_.Go.ChangeSpec) : _root_.Go.OpenSpec := { _root_.Go.OpenSpec.ofChange s with cond := some uptoSmall }

/-- 'limelightlaw01.TreeMakes', WHERE WHAT IT READS IS OF BULK AT MOST 1048576: true; the input reads as it did. -/
def treeMakesUptoRow : OpenClaim := { program := "ytclhmgchllenlaa", sum := "f2b572aeb48b0c8c2c0cfb399d1c96cc6fe39cac0624c0437edae9cae2dc80bf", func := "limelight/limelightlaw01.TreeMakes", spec := "treeMakes", inPlace := ["slices.overlaps[int]"], unfollowed := true, recurses := true, apart := false, narrowed := true }
def TreeMakesUptoSaid : Prop := treeMakesUptoRow.holds Try.pinned (OpenSpec.upto treeMakesSpec)

/-- 'limelightlaw01.TreeMoves', WHERE WHAT IT READS IS OF BULK AT MOST 1048576: true; the input reads as it did. -/
def treeMovesUptoRow : OpenClaim := { program := "ytclhmgchllenlaa", sum := "f2b572aeb48b0c8c2c0cfb399d1c96cc6fe39cac0624c0437edae9cae2dc80bf", func := "limelight/limelightlaw01.TreeMoves", spec := "treeMoves", inPlace := ["slices.overlaps[int]"], unfollowed := true, recurses := true, apart := false, narrowed := true }
def TreeMovesUptoSaid : Prop := treeMovesUptoRow.holds Try.pinned (OpenSpec.upto treeMovesSpec)

/-- 'limelightlaw01.TreeStays', WHERE WHAT IT READS IS OF BULK AT MOST 1048576: true; the input reads as it did. -/
def treeStaysUptoRow : OpenClaim := { program := "ytclhmgchllenlaa", sum := "f2b572aeb48b0c8c2c0cfb399d1c96cc6fe39cac0624c0437edae9cae2dc80bf", func := "limelight/limelightlaw01.TreeStays", spec := "treeStays", inPlace := ["slices.overlaps[int]"], unfollowed := true, recurses := true, apart := false, narrowed := true }
def TreeStaysUptoSaid : Prop := treeStaysUptoRow.holds Try.pinned (OpenSpec.upto treeStaysSpec)

/-- 'limelightlaw01.TreeBack', WHERE WHAT IT READS IS OF BULK AT MOST 1048576: true; the input reads as it did. -/
def treeBackUptoRow : OpenClaim := { program := "ytclhmgchllenlaa", sum := "f2b572aeb48b0c8c2c0cfb399d1c96cc6fe39cac0624c0437edae9cae2dc80bf", func := "limelight/limelightlaw01.TreeBack", spec := "treeBack", inPlace := ["slices.overlaps[int]"], unfollowed := true, recurses := true, apart := false, narrowed := true }
def TreeBackUptoSaid : Prop := treeBackUptoRow.holds Try.pinned (OpenSpec.upto treeBackSpec)

/-- 'limelightlaw01.TreeOnce', WHERE WHAT IT READS IS OF BULK AT MOST 1048576: true; the input reads as it did. -/
def treeOnceUptoRow : OpenClaim := { program := "ytclhmgchllenlaa", sum := "f2b572aeb48b0c8c2c0cfb399d1c96cc6fe39cac0624c0437edae9cae2dc80bf", func := "limelight/limelightlaw01.TreeOnce", spec := "treeOnce", inPlace := ["slices.overlaps[int]"], unfollowed := true, recurses := true, apart := false, narrowed := true }
def TreeOnceUptoSaid : Prop := treeOnceUptoRow.holds Try.pinned (OpenSpec.upto treeOnceSpec)

/-- 'limelightlaw01.TreeKeeps', WHERE WHAT IT READS IS OF BULK AT MOST 1048576: true; the input reads as it did. -/
def treeKeepsUptoRow : OpenClaim := { program := "ytclhmgchllenlaa", sum := "f2b572aeb48b0c8c2c0cfb399d1c96cc6fe39cac0624c0437edae9cae2dc80bf", func := "limelight/limelightlaw01.TreeKeeps", spec := "treeKeeps", inPlace := ["slices.overlaps[int]"], unfollowed := true, recurses := true, apart := false, narrowed := true }
def TreeKeepsUptoSaid : Prop := treeKeepsUptoRow.holds Try.pinned (OpenSpec.upto treeKeepsSpec)

end Rows
end Go.Proofs.Ytclhmgchllenlaa
