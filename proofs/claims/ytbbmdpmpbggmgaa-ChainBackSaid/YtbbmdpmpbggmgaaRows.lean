/-
  No cell of these rows narrows 'for every input' (looked for: loops, veiled, ifaces, maps, wideKeys, modest, calm, conditions, laid).
  DERIVED. THE GIVEN ROWS OF THIS SEAT. 5 by the template 'for every input the law returns true; each argument reads behind the call as it read before'; 0 by the template 'total and deterministic' (their statements: YtbbmdpmpbggmgaaTotals.lean).
  GIVEN WITH THE SEED: the statements are not yours to turn. If you find one false, say at which input.
  Laid BY PROGRAM, IN A SANDBOX (cutbox-rows.mjs): the forced cells as the released guide's own fill.sh prints them over the translation 52476fdce7ed58aa… (all of the seat's roots in one cut). By AI agents, Wed Nov 11 2026. No macro, syntax, notation, axiom, sorry.
-/
import Derived.Test.YtbbmdpmpbggmgaaChecked
import GoSem.Claim
import GoSem.ClaimJoined
import GoSem.ClaimMapViews
import Derived.JoinedTies
import Derived.KernelRfl
namespace Go.Proofs.Ytbbmdpmpbggmgaa
/- THE CELL 'sum', in the pinned program and in every row, IS THE sha256 OF THE DUMP (.gsa) THAT YtbbmdpmpbggmgaaProg.lean LOADS. Nothing in Lean hashes anything: it is a label: what it is worth is what the hold of that sum in a sandbox is worth. -/
noncomputable def Try.pinned : Pinned := { name := "ytbbmdpmpbggmgaa", sum := "52476fdce7ed58aa2ca2a0dd31b45455fb48690dcc74c69ca1b9a3821baf1114", checked := Try.checked }
namespace Rows
def none {H : Type} : Left H := { results := [], args := [] }

/-- 'limelightlaw15.ChainTells': WHATEVER THE INPUT: true; the input reads as it did. -/
def chainTellsSpec : ChangeSpec := { name := "chainTells", fn := fun _ => fun
  | [d1, d2, d3] => { results := [.lit (.bool true)], args := [d1, d2, d3] }
  | _ => none }
def chainTellsRow : OpenClaim := { program := "ytbbmdpmpbggmgaa", sum := "52476fdce7ed58aa2ca2a0dd31b45455fb48690dcc74c69ca1b9a3821baf1114", func := "limelight/limelightlaw15.ChainTells", spec := "chainTells", unfollowed := true, recurses := true, apart := false }
def ChainTellsSaid : Prop := chainTellsRow.holds Try.pinned (OpenSpec.ofChange chainTellsSpec)

/-- ITS FALSE NEIGHBOUR: 'it returns false'. Refute it at one input. -/
def chainTellsWrong : ChangeSpec := { name := "chainTells", fn := fun _ => fun
  | [d1, d2, d3] => { results := [.lit (.bool false)], args := [d1, d2, d3] }
  | _ => none }
def ChainTellsWrongFalsely : Prop := chainTellsRow.holds Try.pinned (OpenSpec.ofChange chainTellsWrong)

/-- 'limelightlaw15.ChainSides': WHATEVER THE INPUT: true; the input reads as it did. -/
def chainSidesSpec : ChangeSpec := { name := "chainSides", fn := fun _ => fun
  | [d1, d2, d3] => { results := [.lit (.bool true)], args := [d1, d2, d3] }
  | _ => none }
def chainSidesRow : OpenClaim := { program := "ytbbmdpmpbggmgaa", sum := "52476fdce7ed58aa2ca2a0dd31b45455fb48690dcc74c69ca1b9a3821baf1114", func := "limelight/limelightlaw15.ChainSides", spec := "chainSides", unfollowed := true, recurses := true, apart := false }
def ChainSidesSaid : Prop := chainSidesRow.holds Try.pinned (OpenSpec.ofChange chainSidesSpec)

/-- ITS FALSE NEIGHBOUR: 'it returns false'. Refute it at one input. -/
def chainSidesWrong : ChangeSpec := { name := "chainSides", fn := fun _ => fun
  | [d1, d2, d3] => { results := [.lit (.bool false)], args := [d1, d2, d3] }
  | _ => none }
def ChainSidesWrongFalsely : Prop := chainSidesRow.holds Try.pinned (OpenSpec.ofChange chainSidesWrong)

/-- 'limelightlaw15.ChainActive': WHATEVER THE INPUT: true; the input reads as it did. -/
def chainActiveSpec : ChangeSpec := { name := "chainActive", fn := fun _ => fun
  | [d1, d2, d3] => { results := [.lit (.bool true)], args := [d1, d2, d3] }
  | _ => none }
def chainActiveRow : OpenClaim := { program := "ytbbmdpmpbggmgaa", sum := "52476fdce7ed58aa2ca2a0dd31b45455fb48690dcc74c69ca1b9a3821baf1114", func := "limelight/limelightlaw15.ChainActive", spec := "chainActive", unfollowed := true, recurses := true, apart := false }
def ChainActiveSaid : Prop := chainActiveRow.holds Try.pinned (OpenSpec.ofChange chainActiveSpec)

/-- ITS FALSE NEIGHBOUR: 'it returns false'. Refute it at one input. -/
def chainActiveWrong : ChangeSpec := { name := "chainActive", fn := fun _ => fun
  | [d1, d2, d3] => { results := [.lit (.bool false)], args := [d1, d2, d3] }
  | _ => none }
def ChainActiveWrongFalsely : Prop := chainActiveRow.holds Try.pinned (OpenSpec.ofChange chainActiveWrong)

/-- 'limelightlaw15.ChainBack': WHATEVER THE INPUT: true; the input reads as it did. -/
def chainBackSpec : ChangeSpec := { name := "chainBack", fn := fun _ => fun
  | [d1, d2, d3] => { results := [.lit (.bool true)], args := [d1, d2, d3] }
  | _ => none }
def chainBackRow : OpenClaim := { program := "ytbbmdpmpbggmgaa", sum := "52476fdce7ed58aa2ca2a0dd31b45455fb48690dcc74c69ca1b9a3821baf1114", func := "limelight/limelightlaw15.ChainBack", spec := "chainBack", unfollowed := true, recurses := true, apart := false }
def ChainBackSaid : Prop := chainBackRow.holds Try.pinned (OpenSpec.ofChange chainBackSpec)

/-- ITS FALSE NEIGHBOUR: 'it returns false'. Refute it at one input. -/
def chainBackWrong : ChangeSpec := { name := "chainBack", fn := fun _ => fun
  | [d1, d2, d3] => { results := [.lit (.bool false)], args := [d1, d2, d3] }
  | _ => none }
def ChainBackWrongFalsely : Prop := chainBackRow.holds Try.pinned (OpenSpec.ofChange chainBackWrong)

/-- 'limelightlaw15.ChainRoots': WHATEVER THE INPUT: true; the input reads as it did. -/
def chainRootsSpec : ChangeSpec := { name := "chainRoots", fn := fun _ => fun
  | [d1, d2] => { results := [.lit (.bool true)], args := [d1, d2] }
  | _ => none }
def chainRootsRow : OpenClaim := { program := "ytbbmdpmpbggmgaa", sum := "52476fdce7ed58aa2ca2a0dd31b45455fb48690dcc74c69ca1b9a3821baf1114", func := "limelight/limelightlaw15.ChainRoots", spec := "chainRoots", unfollowed := true, recurses := true, apart := false }
def ChainRootsSaid : Prop := chainRootsRow.holds Try.pinned (OpenSpec.ofChange chainRootsSpec)

/-- ITS FALSE NEIGHBOUR: 'it returns false'. Refute it at one input. -/
def chainRootsWrong : ChangeSpec := { name := "chainRoots", fn := fun _ => fun
  | [d1, d2] => { results := [.lit (.bool false)], args := [d1, d2] }
  | _ => none }
def ChainRootsWrongFalsely : Prop := chainRootsRow.holds Try.pinned (OpenSpec.ofChange chainRootsWrong)

/- THE SECOND FORM. 'bulk': how many values and letters a reading holds, each counted each time it is reached (what is shared counts as often as it is met; a slice's spare places count too). A statement '..UptoSaid' is the law's where the arguments, and the package variables that the reading takes, are together of bulk at most 1048576: NARROWER than '..Said'. Prove '..Said' where nothing that the law and all that it calls make is longer than what came in: it says more and counts as full. Else prove '..UptoSaid'. A law counts once. -/
mutual
def uptoBulk {H : Type} : DataW H → Nat
  | .lit (.string bytes) => bytes.length + 1
  | .lit _ => 1
  | .nil => 1
  | .ptr d => uptoBulk d + 1
  | .slice elems spare => uptoBulkAll elems + uptoBulkAll spare + 1
  | .agg parts => uptoBulkAll parts + 1
  | .iface _ d => uptoBulk d + 1
  | .map entries => uptoBulkEntries entries + 1
  | .held _ => 1
def uptoBulkAll {H : Type} : List (DataW H) → Nat
  | [] => 0
  | d :: r => uptoBulk d + uptoBulkAll r
def uptoBulkEntries {H : Type} : List (Lit × DataW H) → Nat
  | [] => 0
  | x :: r => uptoBulkEntry x + uptoBulkEntries r
def uptoBulkEntry {H : Type} : Lit × DataW H → Nat
  | (.string bytes, d) => bytes.length + uptoBulk d + 1
  | (_, d) => uptoBulk d + 1
 end
def uptoSmall : (H : Type) → List (DataW H) → Bool := fun _ ds => decide (uptoBulkAll ds ≤ 1048576)
def OpenSpec.upto (s : _root_.Go.ChangeSpec) : _root_.Go.OpenSpec := { _root_.Go.OpenSpec.ofChange s with cond := some uptoSmall }

/-- 'limelightlaw15.ChainTells', WHERE WHAT IT READS IS OF BULK AT MOST 1048576: true; the input reads as it did. -/
def chainTellsUptoRow : OpenClaim := { program := "ytbbmdpmpbggmgaa", sum := "52476fdce7ed58aa2ca2a0dd31b45455fb48690dcc74c69ca1b9a3821baf1114", func := "limelight/limelightlaw15.ChainTells", spec := "chainTells", unfollowed := true, recurses := true, apart := false, narrowed := true }
def ChainTellsUptoSaid : Prop := chainTellsUptoRow.holds Try.pinned (OpenSpec.upto chainTellsSpec)

/-- 'limelightlaw15.ChainSides', WHERE WHAT IT READS IS OF BULK AT MOST 1048576: true; the input reads as it did. -/
def chainSidesUptoRow : OpenClaim := { program := "ytbbmdpmpbggmgaa", sum := "52476fdce7ed58aa2ca2a0dd31b45455fb48690dcc74c69ca1b9a3821baf1114", func := "limelight/limelightlaw15.ChainSides", spec := "chainSides", unfollowed := true, recurses := true, apart := false, narrowed := true }
def ChainSidesUptoSaid : Prop := chainSidesUptoRow.holds Try.pinned (OpenSpec.upto chainSidesSpec)

/-- 'limelightlaw15.ChainActive', WHERE WHAT IT READS IS OF BULK AT MOST 1048576: true; the input reads as it did. -/
def chainActiveUptoRow : OpenClaim := { program := "ytbbmdpmpbggmgaa", sum := "52476fdce7ed58aa2ca2a0dd31b45455fb48690dcc74c69ca1b9a3821baf1114", func := "limelight/limelightlaw15.ChainActive", spec := "chainActive", unfollowed := true, recurses := true, apart := false, narrowed := true }
def ChainActiveUptoSaid : Prop := chainActiveUptoRow.holds Try.pinned (OpenSpec.upto chainActiveSpec)

/-- 'limelightlaw15.ChainBack', WHERE WHAT IT READS IS OF BULK AT MOST 1048576: true; the input reads as it did. -/
def chainBackUptoRow : OpenClaim := { program := "ytbbmdpmpbggmgaa", sum := "52476fdce7ed58aa2ca2a0dd31b45455fb48690dcc74c69ca1b9a3821baf1114", func := "limelight/limelightlaw15.ChainBack", spec := "chainBack", unfollowed := true, recurses := true, apart := false, narrowed := true }
def ChainBackUptoSaid : Prop := chainBackUptoRow.holds Try.pinned (OpenSpec.upto chainBackSpec)

/-- 'limelightlaw15.ChainRoots', WHERE WHAT IT READS IS OF BULK AT MOST 1048576: true; the input reads as it did. -/
def chainRootsUptoRow : OpenClaim := { program := "ytbbmdpmpbggmgaa", sum := "52476fdce7ed58aa2ca2a0dd31b45455fb48690dcc74c69ca1b9a3821baf1114", func := "limelight/limelightlaw15.ChainRoots", spec := "chainRoots", unfollowed := true, recurses := true, apart := false, narrowed := true }
def ChainRootsUptoSaid : Prop := chainRootsUptoRow.holds Try.pinned (OpenSpec.upto chainRootsSpec)

end Rows
end Go.Proofs.Ytbbmdpmpbggmgaa
