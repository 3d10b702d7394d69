/- Walks: has a tree little; may it be, and are two nodes there. -/
import Derived.Test.YtaggmjnpocndkaaME
import Derived.Test.YtaggmjnpocndkaaPx1
namespace Go.Proofs.Ytaggmjnpocndkaa.P
open Go.RowKit Go.Proofs.YtaggmjnpocndkaaW.PrintWords Go.Proofs.YtaggmjnpocndkaaW.PrintLast Go.Proofs.YtaggmjnpocndkaaW.PrintMore
theorem few_f (l : List S57) : limelightref01_Few.f l = some (Lime.smallT (tr l) && decide ((l.length : Int) ≤ 30)) := by
  simp only [limelightref01_Few.f, limelightref01_Small.f, Option.bind_some]
  cases Lime.smallT (tr l) <;> simp
theorem both_f (l : List S57) (a b : Int) : limelightref03_Both.f l a b = some (Lime.mayT (tr l) && (Lime.isN (tr l) a && Lime.isN (tr l) b)) := by
  simp only [limelightref03_Both.f, limelightref01_May.f, limelightref01_Is.f, Option.bind_some]
  cases Lime.mayT (tr l) <;> cases Lime.isN (tr l) a <;> simp
end Go.Proofs.Ytaggmjnpocndkaa.P
namespace Go.Proofs.Lime
open Go.RowKit
theorem few_c {S : Nat → Prop} {W : World} {A : Option Addr} {c : Nat} {t : List Nd} (hr : Row nodeK S W (.slice A t.length c) t) : Calls Try.prog 6 #[.slice A t.length c] W fun e w' => e = .returned (.bool (smallT t && decide ((t.length : Int) ≤ 30))) ∧ Stp W w' := by
  have hC := Go.Proofs.Ytaggmjnpocndkaa.P.C_tree hr
  have := Go.Proofs.Ytaggmjnpocndkaa.P.limelightref01_Few.calls A c (Go.Proofs.Ytaggmjnpocndkaa.P.rt t) _ W (by rw [Go.Proofs.Ytaggmjnpocndkaa.P.rt_length]; exact hC.1) (by rw [Go.Proofs.Ytaggmjnpocndkaa.P.rt_length]; exact hC.2.1) (Go.Proofs.Ytaggmjnpocndkaa.P.few_f (Go.Proofs.Ytaggmjnpocndkaa.P.rt t))
  rw [Go.Proofs.Ytaggmjnpocndkaa.P.rt_length, Go.Proofs.Ytaggmjnpocndkaa.P.tr_rt] at this
  exact this.mono fun e w' ⟨h, hb⟩ => ⟨h, ⟨hb⟩⟩
theorem both_c {S : Nat → Prop} {W : World} {A : Option Addr} {c : Nat} {t : List Nd} (hr : Row nodeK S W (.slice A t.length c) t) (a b : Int) : Calls Try.prog 8 #[.slice A t.length c, .int .i64 a, .int .i64 b] W fun e w' => e = .returned (.bool (mayT t && (isN t a && isN t b))) ∧ Stp W w' := by
  have hC := Go.Proofs.Ytaggmjnpocndkaa.P.C_tree hr
  have := Go.Proofs.Ytaggmjnpocndkaa.P.limelightref03_Both.calls A c (Go.Proofs.Ytaggmjnpocndkaa.P.rt t) a b _ W (by rw [Go.Proofs.Ytaggmjnpocndkaa.P.rt_length]; exact hC.1) (by rw [Go.Proofs.Ytaggmjnpocndkaa.P.rt_length]; exact hC.2.1) (Go.Proofs.Ytaggmjnpocndkaa.P.both_f (Go.Proofs.Ytaggmjnpocndkaa.P.rt t) a b)
  rw [Go.Proofs.Ytaggmjnpocndkaa.P.rt_length, Go.Proofs.Ytaggmjnpocndkaa.P.tr_rt] at this
  exact this.mono fun e w' ⟨h, hb⟩ => ⟨h, ⟨hb⟩⟩
end Go.Proofs.Lime
