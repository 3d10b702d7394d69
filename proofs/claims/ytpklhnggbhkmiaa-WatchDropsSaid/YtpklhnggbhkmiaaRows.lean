/-
  No cell of these rows narrows 'for every input' (looked for: loops, veiled, ifaces, maps, wideKeys, modest, calm, conditions, laid).
  DERIVED. THE GIVEN ROWS OF THIS SEAT. 5 by the template 'for every input the law returns true; each argument reads behind the call as it read before'; 0 by the template 'total and deterministic' (their statements: YtpklhnggbhkmiaaTotals.lean).
  GIVEN WITH THE SEED: the statements are not yours to turn. If you find one false, say at which input.
  Laid BY PROGRAM, IN A SANDBOX (cutbox-rows.mjs): the forced cells as the released guide's own fill.sh prints them over the translation 225a8fab5a968468… (all of the seat's roots in one cut). By AI agents, Wed Nov 11 2026. No macro, syntax, notation, axiom, sorry.
-/
import Derived.Test.YtpklhnggbhkmiaaChecked
import GoSem.Claim
import GoSem.ClaimJoined
import GoSem.ClaimMapViews
import Derived.JoinedTies
import Derived.KernelRfl
namespace Go.Proofs.Ytpklhnggbhkmiaa
/- THE CELL 'sum', in the pinned program and in every row, IS THE sha256 OF THE DUMP (.gsa) THAT YtpklhnggbhkmiaaProg.lean LOADS. Nothing in Lean hashes anything: it is a label: what it is worth is what the hold of that sum in a sandbox is worth. -/
noncomputable def Try.pinned : Pinned := { name := "ytpklhnggbhkmiaa", sum := "225a8fab5a9684688bba6e046dc64f3f16cf0362ba5ca00e91f67a40f00c1ea9", checked := Try.checked }
namespace Rows
def none {H : Type} : Left H := { results := [], args := [] }

/-- 'limelightlaw18.WatchActs': WHATEVER THE INPUT: true; the input reads as it did. -/
def watchActsSpec : ChangeSpec := { name := "watchActs", fn := fun _ => fun
  | [d] => { results := [.lit (.bool true)], args := [d] }
  | _ => none }
def watchActsRow : OpenClaim := { program := "ytpklhnggbhkmiaa", sum := "225a8fab5a9684688bba6e046dc64f3f16cf0362ba5ca00e91f67a40f00c1ea9", func := "limelight/limelightlaw18.WatchActs", spec := "watchActs", unfollowed := true, recurses := true, apart := false }
def WatchActsSaid : Prop := watchActsRow.holds Try.pinned (OpenSpec.ofChange watchActsSpec)

/-- ITS FALSE NEIGHBOUR: 'it returns false'. Refute it at one input. -/
def watchActsWrong : ChangeSpec := { name := "watchActs", fn := fun _ => fun
  | [d] => { results := [.lit (.bool false)], args := [d] }
  | _ => none }
def WatchActsWrongFalsely : Prop := watchActsRow.holds Try.pinned (OpenSpec.ofChange watchActsWrong)

/-- 'limelightlaw18.WatchDrops': WHATEVER THE INPUT: true; the input reads as it did. -/
def watchDropsSpec : ChangeSpec := { name := "watchDrops", fn := fun _ => fun
  | [d1, d2] => { results := [.lit (.bool true)], args := [d1, d2] }
  | _ => none }
def watchDropsRow : OpenClaim := { program := "ytpklhnggbhkmiaa", sum := "225a8fab5a9684688bba6e046dc64f3f16cf0362ba5ca00e91f67a40f00c1ea9", func := "limelight/limelightlaw18.WatchDrops", spec := "watchDrops", unfollowed := true, recurses := true, apart := false }
def WatchDropsSaid : Prop := watchDropsRow.holds Try.pinned (OpenSpec.ofChange watchDropsSpec)

/-- ITS FALSE NEIGHBOUR: 'it returns false'. Refute it at one input. -/
def watchDropsWrong : ChangeSpec := { name := "watchDrops", fn := fun _ => fun
  | [d1, d2] => { results := [.lit (.bool false)], args := [d1, d2] }
  | _ => none }
def WatchDropsWrongFalsely : Prop := watchDropsRow.holds Try.pinned (OpenSpec.ofChange watchDropsWrong)

/-- 'limelightlaw18.WatchRooms': WHATEVER THE INPUT: true; the input reads as it did. -/
def watchRoomsSpec : ChangeSpec := { name := "watchRooms", fn := fun _ => fun
  | [d] => { results := [.lit (.bool true)], args := [d] }
  | _ => none }
def watchRoomsRow : OpenClaim := { program := "ytpklhnggbhkmiaa", sum := "225a8fab5a9684688bba6e046dc64f3f16cf0362ba5ca00e91f67a40f00c1ea9", func := "limelight/limelightlaw18.WatchRooms", spec := "watchRooms", unfollowed := true, recurses := true, apart := false }
def WatchRoomsSaid : Prop := watchRoomsRow.holds Try.pinned (OpenSpec.ofChange watchRoomsSpec)

/-- ITS FALSE NEIGHBOUR: 'it returns false'. Refute it at one input. -/
def watchRoomsWrong : ChangeSpec := { name := "watchRooms", fn := fun _ => fun
  | [d] => { results := [.lit (.bool false)], args := [d] }
  | _ => none }
def WatchRoomsWrongFalsely : Prop := watchRoomsRow.holds Try.pinned (OpenSpec.ofChange watchRoomsWrong)

/-- 'limelightlaw18.WatchCloses': WHATEVER THE INPUT: true; the input reads as it did. -/
def watchClosesSpec : ChangeSpec := { name := "watchCloses", fn := fun _ => fun
  | [d] => { results := [.lit (.bool true)], args := [d] }
  | _ => none }
def watchClosesRow : OpenClaim := { program := "ytpklhnggbhkmiaa", sum := "225a8fab5a9684688bba6e046dc64f3f16cf0362ba5ca00e91f67a40f00c1ea9", func := "limelight/limelightlaw18.WatchCloses", spec := "watchCloses", unfollowed := true, recurses := true, apart := false }
def WatchClosesSaid : Prop := watchClosesRow.holds Try.pinned (OpenSpec.ofChange watchClosesSpec)

/-- ITS FALSE NEIGHBOUR: 'it returns false'. Refute it at one input. -/
def watchClosesWrong : ChangeSpec := { name := "watchCloses", fn := fun _ => fun
  | [d] => { results := [.lit (.bool false)], args := [d] }
  | _ => none }
def WatchClosesWrongFalsely : Prop := watchClosesRow.holds Try.pinned (OpenSpec.ofChange watchClosesWrong)

/-- 'limelightlaw18.WatchOthers': WHATEVER THE INPUT: true; the input reads as it did. -/
def watchOthersSpec : ChangeSpec := { name := "watchOthers", fn := fun _ => fun
  | [d1, d2] => { results := [.lit (.bool true)], args := [d1, d2] }
  | _ => none }
def watchOthersRow : OpenClaim := { program := "ytpklhnggbhkmiaa", sum := "225a8fab5a9684688bba6e046dc64f3f16cf0362ba5ca00e91f67a40f00c1ea9", func := "limelight/limelightlaw18.WatchOthers", spec := "watchOthers", unfollowed := true, recurses := true, apart := false }
def WatchOthersSaid : Prop := watchOthersRow.holds Try.pinned (OpenSpec.ofChange watchOthersSpec)

/-- ITS FALSE NEIGHBOUR: 'it returns false'. Refute it at one input. -/
def watchOthersWrong : ChangeSpec := { name := "watchOthers", fn := fun _ => fun
  | [d1, d2] => { results := [.lit (.bool false)], args := [d1, d2] }
  | _ => none }
def WatchOthersWrongFalsely : Prop := watchOthersRow.holds Try.pinned (OpenSpec.ofChange watchOthersWrong)

/- THE SECOND FORM. 'bulk': how many values and letters a reading holds, each counted each time it is reached (what is shared counts as often as it is met; a slice's spare places count too). A statement '..UptoSaid' is the law's where the arguments, and the package variables that the reading takes, are together of bulk at most 1048576: NARROWER than '..Said'. Prove '..Said' where nothing that the law and all that it calls make is longer than what came in: it says more and counts as full. Else prove '..UptoSaid'. A law counts once. -/
mutual
def uptoBulk {H : Type} : DataW H → Nat
  | .lit (.string bytes) => bytes.length + 1
  | .lit _ => 1
  | .nil => 1
  | .ptr d => uptoBulk d + 1
  | .slice elems spare => uptoBulkAll elems + uptoBulkAll spare + 1
  | .agg parts => uptoBulkAll parts + 1
  | .iface _ d => uptoBulk d + 1
  | .map entries => uptoBulkEntries entries + 1
  | .held _ => 1
def uptoBulkAll {H : Type} : List (DataW H) → Nat
  | [] => 0
  | d :: r => uptoBulk d + uptoBulkAll r
def uptoBulkEntries {H : Type} : List (Lit × DataW H) → Nat
  | [] => 0
  | x :: r => uptoBulkEntry x + uptoBulkEntries r
def uptoBulkEntry {H : Type} : Lit × DataW H → Nat
  | (.string bytes, d) => bytes.length + uptoBulk d + 1
  | (_, d) => uptoBulk d + 1
 end
def uptoSmall : (H : Type) → List (DataW H) → Bool := fun _ ds => decide (uptoBulkAll ds ≤ 1048576)
def OpenSpec.upto (s : _root_.Go.ChangeSpec) : _root_.Go.OpenSpec := { _root_.Go.OpenSpec.ofChange s with cond := some uptoSmall }

/-- 'limelightlaw18.WatchActs', WHERE WHAT IT READS IS OF BULK AT MOST 1048576: true; the input reads as it did. -/
def watchActsUptoRow : OpenClaim := { program := "ytpklhnggbhkmiaa", sum := "225a8fab5a9684688bba6e046dc64f3f16cf0362ba5ca00e91f67a40f00c1ea9", func := "limelight/limelightlaw18.WatchActs", spec := "watchActs", unfollowed := true, recurses := true, apart := false, narrowed := true }
def WatchActsUptoSaid : Prop := watchActsUptoRow.holds Try.pinned (OpenSpec.upto watchActsSpec)

/-- 'limelightlaw18.WatchDrops', WHERE WHAT IT READS IS OF BULK AT MOST 1048576: true; the input reads as it did. -/
def watchDropsUptoRow : OpenClaim := { program := "ytpklhnggbhkmiaa", sum := "225a8fab5a9684688bba6e046dc64f3f16cf0362ba5ca00e91f67a40f00c1ea9", func := "limelight/limelightlaw18.WatchDrops", spec := "watchDrops", unfollowed := true, recurses := true, apart := false, narrowed := true }
def WatchDropsUptoSaid : Prop := watchDropsUptoRow.holds Try.pinned (OpenSpec.upto watchDropsSpec)

/-- 'limelightlaw18.WatchRooms', WHERE WHAT IT READS IS OF BULK AT MOST 1048576: true; the input reads as it did. -/
def watchRoomsUptoRow : OpenClaim := { program := "ytpklhnggbhkmiaa", sum := "225a8fab5a9684688bba6e046dc64f3f16cf0362ba5ca00e91f67a40f00c1ea9", func := "limelight/limelightlaw18.WatchRooms", spec := "watchRooms", unfollowed := true, recurses := true, apart := false, narrowed := true }
def WatchRoomsUptoSaid : Prop := watchRoomsUptoRow.holds Try.pinned (OpenSpec.upto watchRoomsSpec)

/-- 'limelightlaw18.WatchCloses', WHERE WHAT IT READS IS OF BULK AT MOST 1048576: true; the input reads as it did. -/
def watchClosesUptoRow : OpenClaim := { program := "ytpklhnggbhkmiaa", sum := "225a8fab5a9684688bba6e046dc64f3f16cf0362ba5ca00e91f67a40f00c1ea9", func := "limelight/limelightlaw18.WatchCloses", spec := "watchCloses", unfollowed := true, recurses := true, apart := false, narrowed := true }
def WatchClosesUptoSaid : Prop := watchClosesUptoRow.holds Try.pinned (OpenSpec.upto watchClosesSpec)

/-- 'limelightlaw18.WatchOthers', WHERE WHAT IT READS IS OF BULK AT MOST 1048576: true; the input reads as it did. -/
def watchOthersUptoRow : OpenClaim := { program := "ytpklhnggbhkmiaa", sum := "225a8fab5a9684688bba6e046dc64f3f16cf0362ba5ca00e91f67a40f00c1ea9", func := "limelight/limelightlaw18.WatchOthers", spec := "watchOthers", unfollowed := true, recurses := true, apart := false, narrowed := true }
def WatchOthersUptoSaid : Prop := watchOthersUptoRow.holds Try.pinned (OpenSpec.upto watchOthersSpec)

end Rows
end Go.Proofs.Ytpklhnggbhkmiaa
