/-
  No cell of these rows narrows 'for every input' (looked for: loops, veiled, ifaces, maps, wideKeys, modest, calm, conditions, laid).
  DERIVED. THE GIVEN ROWS OF THIS SEAT. 5 by the template 'for every input the law returns true; each argument reads behind the call as it read before'; 0 by the template 'total and deterministic' (their statements: YtiekphenmbigeaaTotals.lean).
  GIVEN WITH THE SEED: the statements are not yours to turn. If you find one false, say at which input.
  Laid BY PROGRAM, IN A SANDBOX (cutbox-rows.mjs): the forced cells as the released guide's own fill.sh prints them over the translation 6093059326aca312… (all of the seat's roots in one cut). By AI agents, Wed Nov 11 2026. No macro, syntax, notation, axiom, sorry.
-/
import Derived.Test.YtiekphenmbigeaaChecked
import GoSem.Claim
import GoSem.ClaimJoined
import GoSem.ClaimMapViews
import Derived.JoinedTies
import Derived.KernelRfl
namespace Go.Proofs.Ytiekphenmbigeaa
/- THE CELL 'sum', in the pinned program and in every row, IS THE sha256 OF THE DUMP (.gsa) THAT YtiekphenmbigeaaProg.lean LOADS. Nothing in Lean hashes anything: it is a label: what it is worth is what the hold of that sum in a sandbox is worth. -/
noncomputable def Try.pinned : Pinned := { name := "ytiekphenmbigeaa", sum := "6093059326aca312ad5f1428bee455df15475266f015bedd61f16432047b2825", checked := Try.checked }
namespace Rows
def none {H : Type} : Left H := { results := [], args := [] }

/-- 'limelightlaw03.OrderTells': WHATEVER THE INPUT: true; the input reads as it did. -/
def orderTellsSpec : ChangeSpec := { name := "orderTells", fn := fun _ => fun
  | [d1, d2, d3] => { results := [.lit (.bool true)], args := [d1, d2, d3] }
  | _ => none }
def orderTellsRow : OpenClaim := { program := "ytiekphenmbigeaa", sum := "6093059326aca312ad5f1428bee455df15475266f015bedd61f16432047b2825", func := "limelight/limelightlaw03.OrderTells", spec := "orderTells", unfollowed := true, recurses := true, apart := false }
def OrderTellsSaid : Prop := orderTellsRow.holds Try.pinned (OpenSpec.ofChange orderTellsSpec)

/-- ITS FALSE NEIGHBOUR: 'it returns false'. Refute it at one input. -/
def orderTellsWrong : ChangeSpec := { name := "orderTells", fn := fun _ => fun
  | [d1, d2, d3] => { results := [.lit (.bool false)], args := [d1, d2, d3] }
  | _ => none }
def OrderTellsWrongFalsely : Prop := orderTellsRow.holds Try.pinned (OpenSpec.ofChange orderTellsWrong)

/-- 'limelightlaw03.OrderLaws': WHATEVER THE INPUT: true; the input reads as it did. -/
def orderLawsSpec : ChangeSpec := { name := "orderLaws", fn := fun _ => fun
  | [d1, d2] => { results := [.lit (.bool true)], args := [d1, d2] }
  | _ => none }
def orderLawsRow : OpenClaim := { program := "ytiekphenmbigeaa", sum := "6093059326aca312ad5f1428bee455df15475266f015bedd61f16432047b2825", func := "limelight/limelightlaw03.OrderLaws", spec := "orderLaws", unfollowed := true, recurses := true, apart := false }
def OrderLawsSaid : Prop := orderLawsRow.holds Try.pinned (OpenSpec.ofChange orderLawsSpec)

/-- ITS FALSE NEIGHBOUR: 'it returns false'. Refute it at one input. -/
def orderLawsWrong : ChangeSpec := { name := "orderLaws", fn := fun _ => fun
  | [d1, d2] => { results := [.lit (.bool false)], args := [d1, d2] }
  | _ => none }
def OrderLawsWrongFalsely : Prop := orderLawsRow.holds Try.pinned (OpenSpec.ofChange orderLawsWrong)

/-- 'limelightlaw03.OrderList': WHATEVER THE INPUT: true; the input reads as it did. -/
def orderListSpec : ChangeSpec := { name := "orderList", fn := fun _ => fun
  | [d1, d2] => { results := [.lit (.bool true)], args := [d1, d2] }
  | _ => none }
def orderListRow : OpenClaim := { program := "ytiekphenmbigeaa", sum := "6093059326aca312ad5f1428bee455df15475266f015bedd61f16432047b2825", func := "limelight/limelightlaw03.OrderList", spec := "orderList", unfollowed := true, recurses := true, apart := false }
def OrderListSaid : Prop := orderListRow.holds Try.pinned (OpenSpec.ofChange orderListSpec)

/-- ITS FALSE NEIGHBOUR: 'it returns false'. Refute it at one input. -/
def orderListWrong : ChangeSpec := { name := "orderList", fn := fun _ => fun
  | [d1, d2] => { results := [.lit (.bool false)], args := [d1, d2] }
  | _ => none }
def OrderListWrongFalsely : Prop := orderListRow.holds Try.pinned (OpenSpec.ofChange orderListWrong)

/-- 'limelightlaw03.OrderUp': WHATEVER THE INPUT: true; the input reads as it did. -/
def orderUpSpec : ChangeSpec := { name := "orderUp", fn := fun _ => fun
  | [d1, d2] => { results := [.lit (.bool true)], args := [d1, d2] }
  | _ => none }
def orderUpRow : OpenClaim := { program := "ytiekphenmbigeaa", sum := "6093059326aca312ad5f1428bee455df15475266f015bedd61f16432047b2825", func := "limelight/limelightlaw03.OrderUp", spec := "orderUp", unfollowed := true, recurses := true, apart := false }
def OrderUpSaid : Prop := orderUpRow.holds Try.pinned (OpenSpec.ofChange orderUpSpec)

/-- ITS FALSE NEIGHBOUR: 'it returns false'. Refute it at one input. -/
def orderUpWrong : ChangeSpec := { name := "orderUp", fn := fun _ => fun
  | [d1, d2] => { results := [.lit (.bool false)], args := [d1, d2] }
  | _ => none }
def OrderUpWrongFalsely : Prop := orderUpRow.holds Try.pinned (OpenSpec.ofChange orderUpWrong)

/-- 'limelightlaw03.OrderTops': WHATEVER THE INPUT: true; the input reads as it did. -/
def orderTopsSpec : ChangeSpec := { name := "orderTops", fn := fun _ => fun
  | [d1, d2] => { results := [.lit (.bool true)], args := [d1, d2] }
  | _ => none }
def orderTopsRow : OpenClaim := { program := "ytiekphenmbigeaa", sum := "6093059326aca312ad5f1428bee455df15475266f015bedd61f16432047b2825", func := "limelight/limelightlaw03.OrderTops", spec := "orderTops", unfollowed := true, recurses := true, apart := false }
def OrderTopsSaid : Prop := orderTopsRow.holds Try.pinned (OpenSpec.ofChange orderTopsSpec)

/-- ITS FALSE NEIGHBOUR: 'it returns false'. Refute it at one input. -/
def orderTopsWrong : ChangeSpec := { name := "orderTops", fn := fun _ => fun
  | [d1, d2] => { results := [.lit (.bool false)], args := [d1, d2] }
  | _ => none }
def OrderTopsWrongFalsely : Prop := orderTopsRow.holds Try.pinned (OpenSpec.ofChange orderTopsWrong)

/- THE SECOND FORM. 'bulk': how many values and letters a reading holds, each counted each time it is reached (what is shared counts as often as it is met; a slice's spare places count too). A statement '..UptoSaid' is the law's where the arguments, and the package variables that the reading takes, are together of bulk at most 1048576: NARROWER than '..Said'. Prove '..Said' where nothing that the law and all that it calls make is longer than what came in: it says more and counts as full. Else prove '..UptoSaid'. A law counts once. -/
mutual
def uptoBulk {H : Type} : DataW H → Nat
  | .lit (.string bytes) => bytes.length + 1
  | .lit _ => 1
  | .nil => 1
  | .ptr d => uptoBulk d + 1
  | .slice elems spare => uptoBulkAll elems + uptoBulkAll spare + 1
  | .agg parts => uptoBulkAll parts + 1
  | .iface _ d => uptoBulk d + 1
  | .map entries => uptoBulkEntries entries + 1
  | .held _ => 1
def uptoBulkAll {H : Type} : List (DataW H) → Nat
  | [] => 0
  | d :: r => uptoBulk d + uptoBulkAll r
def uptoBulkEntries {H : Type} : List (Lit × DataW H) → Nat
  | [] => 0
  | x :: r => uptoBulkEntry x + uptoBulkEntries r
def uptoBulkEntry {H : Type} : Lit × DataW H → Nat
  | (.string bytes, d) => bytes.length + uptoBulk d + 1
  | (_, d) => uptoBulk d + 1
 end
def uptoSmall : (H : Type) → List (DataW H) → Bool := fun _ ds => decide (uptoBulkAll ds ≤ 1048576)
def OpenSpec.upto (s : _root_.Go.ChangeSpec) : _root_.Go.OpenSpec := { _root_.Go.OpenSpec.ofChange s with cond := some uptoSmall }

/-- 'limelightlaw03.OrderTells', WHERE WHAT IT READS IS OF BULK AT MOST 1048576: true; the input reads as it did. -/
def orderTellsUptoRow : OpenClaim := { program := "ytiekphenmbigeaa", sum := "6093059326aca312ad5f1428bee455df15475266f015bedd61f16432047b2825", func := "limelight/limelightlaw03.OrderTells", spec := "orderTells", unfollowed := true, recurses := true, apart := false, narrowed := true }
def OrderTellsUptoSaid : Prop := orderTellsUptoRow.holds Try.pinned (OpenSpec.upto orderTellsSpec)

/-- 'limelightlaw03.OrderLaws', WHERE WHAT IT READS IS OF BULK AT MOST 1048576: true; the input reads as it did. -/
def orderLawsUptoRow : OpenClaim := { program := "ytiekphenmbigeaa", sum := "6093059326aca312ad5f1428bee455df15475266f015bedd61f16432047b2825", func := "limelight/limelightlaw03.OrderLaws", spec := "orderLaws", unfollowed := true, recurses := true, apart := false, narrowed := true }
def OrderLawsUptoSaid : Prop := orderLawsUptoRow.holds Try.pinned (OpenSpec.upto orderLawsSpec)

/-- 'limelightlaw03.OrderList', WHERE WHAT IT READS IS OF BULK AT MOST 1048576: true; the input reads as it did. -/
def orderListUptoRow : OpenClaim := { program := "ytiekphenmbigeaa", sum := "6093059326aca312ad5f1428bee455df15475266f015bedd61f16432047b2825", func := "limelight/limelightlaw03.OrderList", spec := "orderList", unfollowed := true, recurses := true, apart := false, narrowed := true }
def OrderListUptoSaid : Prop := orderListUptoRow.holds Try.pinned (OpenSpec.upto orderListSpec)

/-- 'limelightlaw03.OrderUp', WHERE WHAT IT READS IS OF BULK AT MOST 1048576: true; the input reads as it did. -/
def orderUpUptoRow : OpenClaim := { program := "ytiekphenmbigeaa", sum := "6093059326aca312ad5f1428bee455df15475266f015bedd61f16432047b2825", func := "limelight/limelightlaw03.OrderUp", spec := "orderUp", unfollowed := true, recurses := true, apart := false, narrowed := true }
def OrderUpUptoSaid : Prop := orderUpUptoRow.holds Try.pinned (OpenSpec.upto orderUpSpec)

/-- 'limelightlaw03.OrderTops', WHERE WHAT IT READS IS OF BULK AT MOST 1048576: true; the input reads as it did. -/
def orderTopsUptoRow : OpenClaim := { program := "ytiekphenmbigeaa", sum := "6093059326aca312ad5f1428bee455df15475266f015bedd61f16432047b2825", func := "limelight/limelightlaw03.OrderTops", spec := "orderTops", unfollowed := true, recurses := true, apart := false, narrowed := true }
def OrderTopsUptoSaid : Prop := orderTopsUptoRow.holds Try.pinned (OpenSpec.upto orderTopsSpec)

end Rows
end Go.Proofs.Ytiekphenmbigeaa
