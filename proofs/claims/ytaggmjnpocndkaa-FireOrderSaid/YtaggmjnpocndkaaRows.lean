/-
  No cell of these rows narrows 'for every input' (looked for: loops, veiled, ifaces, maps, wideKeys, modest, calm, conditions, laid).
  DERIVED. THE GIVEN ROWS OF THIS SEAT. 3 by the template 'for every input the law returns true; each argument reads behind the call as it read before'; 0 by the template 'total and deterministic' (their statements: YtaggmjnpocndkaaTotals.lean).
  GIVEN WITH THE SEED: the statements are not yours to turn. If you find one false, say at which input.
  Laid BY PROGRAM, IN A SANDBOX (cutbox-rows.mjs): the forced cells as the released guide's own fill.sh prints them over the translation d04e7def73af3317… (all of the seat's roots in one cut). By AI agents, Wed Nov 11 2026. No macro, syntax, notation, axiom, sorry.
-/
import Derived.Test.YtaggmjnpocndkaaChecked
import GoSem.Claim
import GoSem.ClaimJoined
import GoSem.ClaimMapViews
import Derived.JoinedTies
import Derived.KernelRfl
namespace Go.Proofs.Ytaggmjnpocndkaa
/- THE CELL 'sum', in the pinned program and in every row, IS THE sha256 OF THE DUMP (.gsa) THAT YtaggmjnpocndkaaProg.lean LOADS. Nothing in Lean hashes anything: it is a label: what it is worth is what the hold of that sum in a sandbox is worth. -/
noncomputable def Try.pinned : Pinned := { name := "ytaggmjnpocndkaa", sum := "d04e7def73af33178b12fbbfb741e30f6d430e91435167898c8f7fe3f2be8857", checked := Try.checked }
namespace Rows
def none {H : Type} : Left H := { results := [], args := [] }

/-- 'limelightlaw09.FireOrder': WHATEVER THE INPUT: true; the input reads as it did. -/
def fireOrderSpec : ChangeSpec := { name := "fireOrder", fn := fun _ => fun
  | [d1, d2, d3] => { results := [.lit (.bool true)], args := [d1, d2, d3] }
  | _ => none }
def fireOrderRow : OpenClaim := { program := "ytaggmjnpocndkaa", sum := "d04e7def73af33178b12fbbfb741e30f6d430e91435167898c8f7fe3f2be8857", func := "limelight/limelightlaw09.FireOrder", spec := "fireOrder", unfollowed := true, recurses := true, apart := false }
def FireOrderSaid : Prop := fireOrderRow.holds Try.pinned (OpenSpec.ofChange fireOrderSpec)

/-- ITS FALSE NEIGHBOUR: 'it returns false'. Refute it at one input. -/
def fireOrderWrong : ChangeSpec := { name := "fireOrder", fn := fun _ => fun
  | [d1, d2, d3] => { results := [.lit (.bool false)], args := [d1, d2, d3] }
  | _ => none }
def FireOrderWrongFalsely : Prop := fireOrderRow.holds Try.pinned (OpenSpec.ofChange fireOrderWrong)

/-- 'limelightlaw09.FireNil': WHATEVER THE INPUT: true; the input reads as it did. -/
def fireNilSpec : ChangeSpec := { name := "fireNil", fn := fun _ => fun
  | [d1, d2] => { results := [.lit (.bool true)], args := [d1, d2] }
  | _ => none }
def fireNilRow : OpenClaim := { program := "ytaggmjnpocndkaa", sum := "d04e7def73af33178b12fbbfb741e30f6d430e91435167898c8f7fe3f2be8857", func := "limelight/limelightlaw09.FireNil", spec := "fireNil", unfollowed := true, recurses := true, apart := false }
def FireNilSaid : Prop := fireNilRow.holds Try.pinned (OpenSpec.ofChange fireNilSpec)

/-- ITS FALSE NEIGHBOUR: 'it returns false'. Refute it at one input. -/
def fireNilWrong : ChangeSpec := { name := "fireNil", fn := fun _ => fun
  | [d1, d2] => { results := [.lit (.bool false)], args := [d1, d2] }
  | _ => none }
def FireNilWrongFalsely : Prop := fireNilRow.holds Try.pinned (OpenSpec.ofChange fireNilWrong)

/-- 'limelightlaw09.FireSame': WHATEVER THE INPUT: true; the input reads as it did. -/
def fireSameSpec : ChangeSpec := { name := "fireSame", fn := fun _ => fun
  | [d1, d2, d3] => { results := [.lit (.bool true)], args := [d1, d2, d3] }
  | _ => none }
def fireSameRow : OpenClaim := { program := "ytaggmjnpocndkaa", sum := "d04e7def73af33178b12fbbfb741e30f6d430e91435167898c8f7fe3f2be8857", func := "limelight/limelightlaw09.FireSame", spec := "fireSame", unfollowed := true, recurses := true, apart := false }
def FireSameSaid : Prop := fireSameRow.holds Try.pinned (OpenSpec.ofChange fireSameSpec)

/-- ITS FALSE NEIGHBOUR: 'it returns false'. Refute it at one input. -/
def fireSameWrong : ChangeSpec := { name := "fireSame", fn := fun _ => fun
  | [d1, d2, d3] => { results := [.lit (.bool false)], args := [d1, d2, d3] }
  | _ => none }
def FireSameWrongFalsely : Prop := fireSameRow.holds Try.pinned (OpenSpec.ofChange fireSameWrong)

/- THE SECOND FORM. 'bulk': how many values and letters a reading holds, each counted each time it is reached (what is shared counts as often as it is met; a slice's spare places count too). A statement '..UptoSaid' is the law's where the arguments, and the package variables that the reading takes, are together of bulk at most 1048576: NARROWER than '..Said'. Prove '..Said' where nothing that the law and all that it calls make is longer than what came in: it says more and counts as full. Else prove '..UptoSaid'. A law counts once. -/
mutual
def uptoBulk {H : Type} : DataW H → Nat
  | .lit (.string bytes) => bytes.length + 1
  | .lit _ => 1
  | .nil => 1
  | .ptr d => uptoBulk d + 1
  | .slice elems spare => uptoBulkAll elems + uptoBulkAll spare + 1
  | .agg parts => uptoBulkAll parts + 1
  | .iface _ d => uptoBulk d + 1
  | .map entries => uptoBulkEntries entries + 1
  | .held _ => 1
def uptoBulkAll {H : Type} : List (DataW H) → Nat
  | [] => 0
  | d :: r => uptoBulk d + uptoBulkAll r
def uptoBulkEntries {H : Type} : List (Lit × DataW H) → Nat
  | [] => 0
  | x :: r => uptoBulkEntry x + uptoBulkEntries r
def uptoBulkEntry {H : Type} : Lit × DataW H → Nat
  | (.string bytes, d) => bytes.length + uptoBulk d + 1
  | (_, d) => uptoBulk d + 1
 end
def uptoSmall : (H : Type) → List (DataW H) → Bool := fun _ ds => decide (uptoBulkAll ds ≤ 1048576)
def OpenSpec.upto (s : _root_.Go.ChangeSpec) : _root_.Go.OpenSpec := { _root_.Go.OpenSpec.ofChange s with cond := some uptoSmall }

/-- 'limelightlaw09.FireOrder', WHERE WHAT IT READS IS OF BULK AT MOST 1048576: true; the input reads as it did. -/
def fireOrderUptoRow : OpenClaim := { program := "ytaggmjnpocndkaa", sum := "d04e7def73af33178b12fbbfb741e30f6d430e91435167898c8f7fe3f2be8857", func := "limelight/limelightlaw09.FireOrder", spec := "fireOrder", unfollowed := true, recurses := true, apart := false, narrowed := true }
def FireOrderUptoSaid : Prop := fireOrderUptoRow.holds Try.pinned (OpenSpec.upto fireOrderSpec)

/-- 'limelightlaw09.FireNil', WHERE WHAT IT READS IS OF BULK AT MOST 1048576: true; the input reads as it did. -/
def fireNilUptoRow : OpenClaim := { program := "ytaggmjnpocndkaa", sum := "d04e7def73af33178b12fbbfb741e30f6d430e91435167898c8f7fe3f2be8857", func := "limelight/limelightlaw09.FireNil", spec := "fireNil", unfollowed := true, recurses := true, apart := false, narrowed := true }
def FireNilUptoSaid : Prop := fireNilUptoRow.holds Try.pinned (OpenSpec.upto fireNilSpec)

/-- 'limelightlaw09.FireSame', WHERE WHAT IT READS IS OF BULK AT MOST 1048576: true; the input reads as it did. -/
def fireSameUptoRow : OpenClaim := { program := "ytaggmjnpocndkaa", sum := "d04e7def73af33178b12fbbfb741e30f6d430e91435167898c8f7fe3f2be8857", func := "limelight/limelightlaw09.FireSame", spec := "fireSame", unfollowed := true, recurses := true, apart := false, narrowed := true }
def FireSameUptoSaid : Prop := fireSameUptoRow.holds Try.pinned (OpenSpec.upto fireSameSpec)

end Rows
end Go.Proofs.Ytaggmjnpocndkaa
