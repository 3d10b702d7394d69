/-
  No cell of these rows narrows 'for every input' (looked for: loops, veiled, ifaces, maps, wideKeys, modest, calm, conditions, laid).
  DERIVED. THE GIVEN ROWS OF THIS SEAT. 5 by the template 'for every input the law returns true; each argument reads behind the call as it read before'; 0 by the template 'total and deterministic' (their statements: YtbdokcdnajdmaaaTotals.lean).
  GIVEN WITH THE SEED: the statements are not yours to turn. If you find one false, say at which input.
  Laid BY PROGRAM, IN A SANDBOX (cutbox-rows.mjs): the forced cells as the released guide's own fill.sh prints them over the translation fd1f8a4fad59b4b3… (all of the seat's roots in one cut). By AI agents, Wed Nov 11 2026. No macro, syntax, notation, axiom, sorry.
-/
import Derived.Test.YtbdokcdnajdmaaaChecked
import GoSem.Claim
import GoSem.ClaimJoined
import GoSem.ClaimMapViews
import Derived.JoinedTies
import Derived.KernelRfl
namespace Go.Proofs.Ytbdokcdnajdmaaa
/- THE CELL 'sum', in the pinned program and in every row, IS THE sha256 OF THE DUMP (.gsa) THAT YtbdokcdnajdmaaaProg.lean LOADS. Nothing in Lean hashes anything: it is a label: what it is worth is what the hold of that sum in a sandbox is worth. -/
noncomputable def Try.pinned : Pinned := { name := "ytbdokcdnajdmaaa", sum := "fd1f8a4fad59b4b3496366ad27ebb738be4f4c42171b66883e6d48f0f0b547b8", checked := Try.checked }
namespace Rows
def none {H : Type} : Left H := { results := [], args := [] }

/-- 'limelightlaw07.AimTells': WHATEVER THE INPUT: true; the input reads as it did. -/
def aimTellsSpec : ChangeSpec := { name := "aimTells", fn := fun _ => fun
  | [d1, d2, d3] => { results := [.lit (.bool true)], args := [d1, d2, d3] }
  | _ => none }
def aimTellsRow : OpenClaim := { program := "ytbdokcdnajdmaaa", sum := "fd1f8a4fad59b4b3496366ad27ebb738be4f4c42171b66883e6d48f0f0b547b8", func := "limelight/limelightlaw07.AimTells", spec := "aimTells", unfollowed := true, recurses := true, apart := false }
def AimTellsSaid : Prop := aimTellsRow.holds Try.pinned (OpenSpec.ofChange aimTellsSpec)

/-- ITS FALSE NEIGHBOUR: 'it returns false'. Refute it at one input. -/
def aimTellsWrong : ChangeSpec := { name := "aimTells", fn := fun _ => fun
  | [d1, d2, d3] => { results := [.lit (.bool false)], args := [d1, d2, d3] }
  | _ => none }
def AimTellsWrongFalsely : Prop := aimTellsRow.holds Try.pinned (OpenSpec.ofChange aimTellsWrong)

/-- 'limelightlaw07.AimVisits': WHATEVER THE INPUT: true; the input reads as it did. -/
def aimVisitsSpec : ChangeSpec := { name := "aimVisits", fn := fun _ => fun
  | [d1, d2] => { results := [.lit (.bool true)], args := [d1, d2] }
  | _ => none }
def aimVisitsRow : OpenClaim := { program := "ytbdokcdnajdmaaa", sum := "fd1f8a4fad59b4b3496366ad27ebb738be4f4c42171b66883e6d48f0f0b547b8", func := "limelight/limelightlaw07.AimVisits", spec := "aimVisits", unfollowed := true, recurses := true, apart := false }
def AimVisitsSaid : Prop := aimVisitsRow.holds Try.pinned (OpenSpec.ofChange aimVisitsSpec)

/-- ITS FALSE NEIGHBOUR: 'it returns false'. Refute it at one input. -/
def aimVisitsWrong : ChangeSpec := { name := "aimVisits", fn := fun _ => fun
  | [d1, d2] => { results := [.lit (.bool false)], args := [d1, d2] }
  | _ => none }
def AimVisitsWrongFalsely : Prop := aimVisitsRow.holds Try.pinned (OpenSpec.ofChange aimVisitsWrong)

/-- 'limelightlaw07.AimHides': WHATEVER THE INPUT: true; the input reads as it did. -/
def aimHidesSpec : ChangeSpec := { name := "aimHides", fn := fun _ => fun
  | [d1, d2] => { results := [.lit (.bool true)], args := [d1, d2] }
  | _ => none }
def aimHidesRow : OpenClaim := { program := "ytbdokcdnajdmaaa", sum := "fd1f8a4fad59b4b3496366ad27ebb738be4f4c42171b66883e6d48f0f0b547b8", func := "limelight/limelightlaw07.AimHides", spec := "aimHides", unfollowed := true, recurses := true, apart := false }
def AimHidesSaid : Prop := aimHidesRow.holds Try.pinned (OpenSpec.ofChange aimHidesSpec)

/-- ITS FALSE NEIGHBOUR: 'it returns false'. Refute it at one input. -/
def aimHidesWrong : ChangeSpec := { name := "aimHides", fn := fun _ => fun
  | [d1, d2] => { results := [.lit (.bool false)], args := [d1, d2] }
  | _ => none }
def AimHidesWrongFalsely : Prop := aimHidesRow.holds Try.pinned (OpenSpec.ofChange aimHidesWrong)

/-- 'limelightlaw07.AimRound': WHATEVER THE INPUT: true; the input reads as it did. -/
def aimRoundSpec : ChangeSpec := { name := "aimRound", fn := fun _ => fun
  | [d1, d2] => { results := [.lit (.bool true)], args := [d1, d2] }
  | _ => none }
def aimRoundRow : OpenClaim := { program := "ytbdokcdnajdmaaa", sum := "fd1f8a4fad59b4b3496366ad27ebb738be4f4c42171b66883e6d48f0f0b547b8", func := "limelight/limelightlaw07.AimRound", spec := "aimRound", unfollowed := true, recurses := true, apart := false }
def AimRoundSaid : Prop := aimRoundRow.holds Try.pinned (OpenSpec.ofChange aimRoundSpec)

/-- ITS FALSE NEIGHBOUR: 'it returns false'. Refute it at one input. -/
def aimRoundWrong : ChangeSpec := { name := "aimRound", fn := fun _ => fun
  | [d1, d2] => { results := [.lit (.bool false)], args := [d1, d2] }
  | _ => none }
def AimRoundWrongFalsely : Prop := aimRoundRow.holds Try.pinned (OpenSpec.ofChange aimRoundWrong)

/-- 'limelightlaw07.AimInside': WHATEVER THE INPUT: true; the input reads as it did. -/
def aimInsideSpec : ChangeSpec := { name := "aimInside", fn := fun _ => fun
  | [d1, d2] => { results := [.lit (.bool true)], args := [d1, d2] }
  | _ => none }
def aimInsideRow : OpenClaim := { program := "ytbdokcdnajdmaaa", sum := "fd1f8a4fad59b4b3496366ad27ebb738be4f4c42171b66883e6d48f0f0b547b8", func := "limelight/limelightlaw07.AimInside", spec := "aimInside", unfollowed := true, recurses := true, apart := false }
def AimInsideSaid : Prop := aimInsideRow.holds Try.pinned (OpenSpec.ofChange aimInsideSpec)

/-- ITS FALSE NEIGHBOUR: 'it returns false'. Refute it at one input. -/
def aimInsideWrong : ChangeSpec := { name := "aimInside", fn := fun _ => fun
  | [d1, d2] => { results := [.lit (.bool false)], args := [d1, d2] }
  | _ => none }
def AimInsideWrongFalsely : Prop := aimInsideRow.holds Try.pinned (OpenSpec.ofChange aimInsideWrong)

/- THE SECOND FORM. 'bulk': how many values and letters a reading holds, each counted each time it is reached (what is shared counts as often as it is met; a slice's spare places count too). A statement '..UptoSaid' is the law's where the arguments, and the package variables that the reading takes, are together of bulk at most 1048576: NARROWER than '..Said'. Prove '..Said' where nothing that the law and all that it calls make is longer than what came in: it says more and counts as full. Else prove '..UptoSaid'. A law counts once. -/
mutual
def uptoBulk {H : Type} : DataW H → Nat
  | .lit (.string bytes) => bytes.length + 1
  | .lit _ => 1
  | .nil => 1
  | .ptr d => uptoBulk d + 1
  | .slice elems spare => uptoBulkAll elems + uptoBulkAll spare + 1
  | .agg parts => uptoBulkAll parts + 1
  | .iface _ d => uptoBulk d + 1
  | .map entries => uptoBulkEntries entries + 1
  | .held _ => 1
def uptoBulkAll {H : Type} : List (DataW H) → Nat
  | [] => 0
  | d :: r => uptoBulk d + uptoBulkAll r
def uptoBulkEntries {H : Type} : List (Lit × DataW H) → Nat
  | [] => 0
  | x :: r => uptoBulkEntry x + uptoBulkEntries r
def uptoBulkEntry {H : Type} : Lit × DataW H → Nat
  | (.string bytes, d) => bytes.length + uptoBulk d + 1
  | (_, d) => uptoBulk d + 1
 end
def uptoSmall : (H : Type) → List (DataW H) → Bool := fun _ ds => decide (uptoBulkAll ds ≤ 1048576)
def OpenSpec.upto (s : _root_.Go.ChangeSpec) : _root_.Go.OpenSpec := { _root_.Go.OpenSpec.ofChange s with cond := some uptoSmall }

/-- 'limelightlaw07.AimTells', WHERE WHAT IT READS IS OF BULK AT MOST 1048576: true; the input reads as it did. -/
def aimTellsUptoRow : OpenClaim := { program := "ytbdokcdnajdmaaa", sum := "fd1f8a4fad59b4b3496366ad27ebb738be4f4c42171b66883e6d48f0f0b547b8", func := "limelight/limelightlaw07.AimTells", spec := "aimTells", unfollowed := true, recurses := true, apart := false, narrowed := true }
def AimTellsUptoSaid : Prop := aimTellsUptoRow.holds Try.pinned (OpenSpec.upto aimTellsSpec)

/-- 'limelightlaw07.AimVisits', WHERE WHAT IT READS IS OF BULK AT MOST 1048576: true; the input reads as it did. -/
def aimVisitsUptoRow : OpenClaim := { program := "ytbdokcdnajdmaaa", sum := "fd1f8a4fad59b4b3496366ad27ebb738be4f4c42171b66883e6d48f0f0b547b8", func := "limelight/limelightlaw07.AimVisits", spec := "aimVisits", unfollowed := true, recurses := true, apart := false, narrowed := true }
def AimVisitsUptoSaid : Prop := aimVisitsUptoRow.holds Try.pinned (OpenSpec.upto aimVisitsSpec)

/-- 'limelightlaw07.AimHides', WHERE WHAT IT READS IS OF BULK AT MOST 1048576: true; the input reads as it did. -/
def aimHidesUptoRow : OpenClaim := { program := "ytbdokcdnajdmaaa", sum := "fd1f8a4fad59b4b3496366ad27ebb738be4f4c42171b66883e6d48f0f0b547b8", func := "limelight/limelightlaw07.AimHides", spec := "aimHides", unfollowed := true, recurses := true, apart := false, narrowed := true }
def AimHidesUptoSaid : Prop := aimHidesUptoRow.holds Try.pinned (OpenSpec.upto aimHidesSpec)

/-- 'limelightlaw07.AimRound', WHERE WHAT IT READS IS OF BULK AT MOST 1048576: true; the input reads as it did. -/
def aimRoundUptoRow : OpenClaim := { program := "ytbdokcdnajdmaaa", sum := "fd1f8a4fad59b4b3496366ad27ebb738be4f4c42171b66883e6d48f0f0b547b8", func := "limelight/limelightlaw07.AimRound", spec := "aimRound", unfollowed := true, recurses := true, apart := false, narrowed := true }
def AimRoundUptoSaid : Prop := aimRoundUptoRow.holds Try.pinned (OpenSpec.upto aimRoundSpec)

/-- 'limelightlaw07.AimInside', WHERE WHAT IT READS IS OF BULK AT MOST 1048576: true; the input reads as it did. -/
def aimInsideUptoRow : OpenClaim := { program := "ytbdokcdnajdmaaa", sum := "fd1f8a4fad59b4b3496366ad27ebb738be4f4c42171b66883e6d48f0f0b547b8", func := "limelight/limelightlaw07.AimInside", spec := "aimInside", unfollowed := true, recurses := true, apart := false, narrowed := true }
def AimInsideUptoSaid : Prop := aimInsideUptoRow.holds Try.pinned (OpenSpec.upto aimInsideSpec)

end Rows
end Go.Proofs.Ytbdokcdnajdmaaa
