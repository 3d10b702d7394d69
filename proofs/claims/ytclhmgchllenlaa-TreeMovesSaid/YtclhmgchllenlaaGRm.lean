/- The contracts of the document's Copy, Insert and Remove in the print's form. No conditions. -/
import Derived.Test.YtclhmgchllenlaaGMk
import Derived.Test.YtclhmgchllenlaaMR
namespace Go.Proofs.Ytclhmgchllenlaa.P
open Go.RowKit Go.Proofs.YtclhmgchllenlaaW.PrintWords Go.Proofs.YtclhmgchllenlaaW.PrintLast Go.Proofs.YtclhmgchllenlaaW.PrintMore
set_option linter.unusedVariables false
set_option linter.unusedSimpArgs false
def limelightref01_Copy.f (l0 : List S49) : Option (List S49) := ifOk l0 l0
theorem limelightref01_Copy.calls (A0 : Option Addr) (c0 : Nat) (l0 : List S49) (r : List S49) (w : World) (hr0 : Kd.C k49 w A0 l0.length l0) (hc0 : l0.length ≤ c0) (h : limelightref01_Copy.f l0 = some r) :
    Calls Try.prog 16 #[.slice A0 l0.length c0] w fun e w' => ∃ v0_ : Value, e = .returned (v0_) ∧ Kd.V k49 49 w' w.heap.size (fun k_ => w.heap.size ≤ k_) v0_ r ∧ Below w.heap.size w w' := by
  obtain ⟨hok, rfl⟩ := ifOk_some h
  exact (Lime.rcopy_c (row_tree hr0 hc0) hok).mono fun e w' ⟨u, h1, L, h2, h3, h4⟩ => ⟨u, h1, by have := V_tree (base := w.heap.size) (h2.reads (Nat.le_refl _)); rwa [h3, rt_tr] at this, h4.out⟩
def limelightref01_Insert.f (l0 : List S49) (a1_0 a1_1 a1_2 : Int) : Option (List S49 × Int) := ifOk l0 (rt (Lime.insR (tr l0) a1_0 a1_1 a1_2).1, (Lime.insR (tr l0) a1_0 a1_1 a1_2).2)
theorem limelightref01_Insert.calls (P0_ : Nat → Prop) (A0 : Option Addr) (c0 : Nat) (l0 : List S49) (a1_0 : Int) (a1_1 : Int) (a1_2 : Int) (r1 : List S49) (r2 : Int) (w : World) (hs0 : Kd.V k49 49 w w.heap.size (fun k_ => P0_ k_) (.slice A0 l0.length c0) l0) (h : limelightref01_Insert.f l0 a1_0 a1_1 a1_2 = some (r1, r2)) :
    Calls Try.prog 19 #[.slice A0 l0.length c0, .agg #[.int .i64 a1_0, .int .i64 a1_1, .int .i64 a1_2]] w fun e w' => ∃ v0_ : Value, e = .returned (.tuple #[v0_, .int .i64 r2]) ∧ Kd.V k49 49 w' w.heap.size (fun k_ => (P0_ k_ ∨ w.heap.size ≤ k_)) v0_ r1 ∧ Below w.heap.size w w' := by
  obtain ⟨hok, hx⟩ := ifOk_some h
  injection hx with h1 h2
  subst h1 h2
  have hC := Kd.V_reads' hs0
  exact (Lime.rinsert_c (row_tree hC.2.2 hC.2.1) hok a1_0 a1_1 a1_2).mono fun e w' ⟨u, h1, h2, h3⟩ => ⟨u, h1, out_V hs0 h3 h2, h3.out⟩
def limelightref01_Remove.f (l0 : List S49) (a1 : Int) : Option (List S49 × Int) := ifOk l0 (rt (Lime.rmR (tr l0) a1).1, (Lime.rmR (tr l0) a1).2)
theorem limelightref01_Remove.calls (P0_ : Nat → Prop) (A0 : Option Addr) (c0 : Nat) (l0 : List S49) (a1 : Int) (r1 : List S49) (r2 : Int) (w : World) (hs0 : Kd.V k49 49 w w.heap.size (fun k_ => P0_ k_) (.slice A0 l0.length c0) l0) (h : limelightref01_Remove.f l0 a1 = some (r1, r2)) :
    Calls Try.prog 21 #[.slice A0 l0.length c0, .int .i64 a1] w fun e w' => ∃ v0_ : Value, e = .returned (.tuple #[v0_, .int .i64 r2]) ∧ Kd.V k49 49 w' w.heap.size (fun k_ => (P0_ k_ ∨ w.heap.size ≤ k_)) v0_ r1 ∧ Below w.heap.size w w' := by
  obtain ⟨hok, hx⟩ := ifOk_some h
  injection hx with h1 h2
  subst h1 h2
  have hC := Kd.V_reads' hs0
  exact (Lime.rremove_c (row_tree hC.2.2 hC.2.1) hok a1).mono fun e w' ⟨u, h1, h2, h3⟩ => ⟨u, h1, out_V hs0 h3 h2, h3.out⟩
end Go.Proofs.Ytclhmgchllenlaa.P
