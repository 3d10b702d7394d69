/- Plain law: what the document's functions of tree order tell. No conditions. -/
import Derived.Test.YtbdokcdnajdmaaaEI
import Derived.Test.YtbdokcdnajdmaaaPx2
import Derived.Test.YtbdokcdnajdmaaaPx4
namespace Go.Proofs.Ytbdokcdnajdmaaa.P
open Go.RowKit Go.Proofs.YtbdokcdnajdmaaaW.PrintWords Go.Proofs.YtbdokcdnajdmaaaW.PrintLast Go.Proofs.YtbdokcdnajdmaaaW.PrintMore
set_option linter.unusedVariables false
set_option linter.unusedSimpArgs false
set_option linter.unusedSectionVars false
set_option linter.unusedSectionVars false

theorem place_l (l : List Int) (a : Int) (hl : l.length < 1000000) : ∀ d i : Nat, i + d = l.length → Ev (fun k => limelightref03_Place.l0 k l a i) (Lime.idxFrom (· == a) i (l.drop i)) := by
  intro d
  induction d with
  | zero =>
    intro i hi
    refine Ev.step (fun k => by rw [limelightref03_Place.l0]) ?_
    refine Ev.no (by omega) ?_
    exact Ev.pure (by rw [List.drop_eq_nil_of_le (by omega)]; rfl)
  | succ d ih =>
    intro i hi
    have hlt : i < l.length := by omega
    refine Ev.step (fun k => by rw [limelightref03_Place.l0]) ?_
    refine Ev.yes (by omega) (Ev.yes (by omega) ?_)
    rw [rd_nat hlt, w1 (by omega), drop_at hlt, Lime.idxFrom]
    by_cases hx : l[i] = a
    · refine Ev.yes hx (Ev.pure ?_)
      simp [hx]
    · refine Ev.no hx ?_
      simp only [beq_iff_eq, hx, if_false]
      exact ih (i + 1) (by omega)
theorem place_ev (l : List Int) (a : Int) (hl : l.length < 1000000) : Ev (fun k => limelightref03_Place.f k l a) (plc l a) := place_l l a hl l.length 0 (by omega)
theorem in_ev (l : List Int) (a : Int) (hl : l.length < 1000000) : Ev (fun k => limelightref03_In.f k l a) (decide (a ∈ l)) :=
  Ev.bind (f := fun _ t => some (decide (t ≥ 0))) (place_ev l a hl) (Ev.pure (by congr 1; exact decide_eq_decide.2 plc_iff))
section
variable {l : List S53} (M : Lime.May (tr l))
include M
theorem may_len : l.length ≤ 64 := by have := M.len2; rwa [tr_length] at this
theorem rup_l (n : Int) (hn : n = -1 ∨ Lime.isN (tr l) n = true) : ∀ acc : List Int, acc.length + (Lime.upsP (tr l) n).length < 1000000 → Ev (fun k => limelightref03_Up.l0 k l n acc) (acc ++ Lime.upsP (tr l) n) := by
  refine M.par_ind (P := fun n => ∀ acc : List Int, acc.length + (Lime.upsP (tr l) n).length < 1000000 → Ev (fun k => limelightref03_Up.l0 k l n acc) (acc ++ Lime.upsP (tr l) n)) ?_ ?_ n hn
  · intro acc ha
    refine Ev.step (fun k => by rw [limelightref03_Up.l0]) ?_
    refine Ev.yes rfl (Ev.pure ?_)
    rw [Lime.upsP_none, List.append_nil]
  · intro n hn ih acc ha
    have h1 := isN_lt hn
    rw [M.upsP_step hn] at ha ⊢
    simp only [List.length_cons] at ha
    refine Ev.step (fun k => by rw [limelightref03_Up.l0]) ?_
    refine Ev.no (M.ne1 hn) (Ev.yes (by omega) (Ev.yes h1.1 (Ev.yes h1.2 ?_)))
    rw [rd_parent]
    have := ih (acc ++ [n]) (by simp; omega)
    rw [List.append_assoc] at this
    exact this
theorem rup_ev {n : Int} (hn : Lime.isN (tr l) n = true) : Ev (fun k => limelightref03_Up.f k l n) (Lime.upsP (tr l) n) := by
  have h1 := M.upsP_le hn
  have h2 := M.len2
  exact rup_l M n (.inr hn) [] (by simp; omega)
theorem rlist_ev : ∀ (d : Nat) (n : Int), Lime.isN (tr l) n = true → (tr l).length < Lime.dep (tr l) n + d → Ev (fun k => limelightref03_List.f k l n) (Lime.listT (tr l) n) := by
  intro d
  induction d with
  | zero => intro n hn hd; have := M.dep_le hn; omega
  | succ d ih =>
    intro n hn hd
    have h1 := isN_lt hn
    have hle := M.listT_le hn
    have h64 := M.len2
    have hkl := Lime.nodup_isN (M.kids_nodup hn) (fun x hx => (M.kid hn hx).1)
    refine Ev.step (fun k => by rw [limelightref03_List.f]) ?_
    have key : ∀ e i : Nat, i + e = (Lime.nd (tr l) n).kids.length → ∀ acc : List Int, acc.length + (((Lime.nd (tr l) n).kids.drop i).flatMap (Lime.listT (tr l))).length < 1000 → Ev (fun k => limelightref03_List.l0 k l n acc i) (acc ++ ((Lime.nd (tr l) n).kids.drop i).flatMap (Lime.listT (tr l))) := by
      intro e
      induction e with
      | zero =>
        intro i hi acc ha
        refine Ev.step (fun k => by rw [limelightref03_List.l0]) ?_
        refine Ev.yes h1.1 (Ev.yes h1.2 (Ev.no (by rw [rd_kids]; omega) (Ev.pure ?_)))
        rw [List.drop_eq_nil_of_le (by omega)]; simp
      | succ e ihe =>
        intro i hi acc ha
        have hlt : i < (Lime.nd (tr l) n).kids.length := by omega
        rw [drop_at hlt, List.flatMap_cons, List.length_append] at ha
        obtain ⟨hk1, _, hk3⟩ := M.dep_kid hn (List.getElem_mem hlt)
        refine Ev.step (fun k => by rw [limelightref03_List.l0]) ?_
        refine Ev.yes h1.1 (Ev.yes h1.2 (Ev.yes (by rw [rd_kids]; omega) (Ev.yes (by omega) ?_)))
        rw [rd_kids, rd_nat hlt, w1 (by omega), drop_at hlt, List.flatMap_cons]
        refine Ev.bind (ih _ hk1 (by omega)) (Ev.yes (by omega) ?_)
        have := ihe (i + 1) (by omega) (acc ++ Lime.listT (tr l) (Lime.nd (tr l) n).kids[i]) (by rw [List.length_append]; omega)
        rw [List.append_assoc] at this
        exact this
    rw [M.listT_step hn] at hle ⊢
    have := key (Lime.nd (tr l) n).kids.length 0 (by omega) [n] (by simp at hle ⊢; omega)
    exact this
theorem rlist {n : Int} (hn : Lime.isN (tr l) n = true) : Ev (fun k => limelightref03_List.f k l n) (Lime.listT (tr l) n) := rlist_ev M _ n hn (Nat.lt_add_of_pos_left (by rw [M.dep_step hn]; omega))
theorem rtop_ev {n : Int} (hn : Lime.isN (tr l) n = true) : Ev (fun k => limelightref03_Top.f k l n) (Lime.topT (tr l) n) := by
  have h1 := M.upsP_le hn
  have h2 := M.len2
  have h0 : 0 < (Lime.upsP (tr l) n).length := by rw [M.upsP_step hn]; simp
  refine Ev.bind (rup_ev M hn) ?_
  have e : wrap64 (((Lime.upsP (tr l) n).length : Int) - 1) = (((Lime.upsP (tr l) n).length - 1 : Nat) : Int) := by rw [wid (by omega) (by omega)]; omega
  rw [e]
  refine Ev.yes (by omega) (Ev.yes (by omega) (Ev.pure ?_))
  rw [rd_nat (by omega), Lime.topT, List.getLastD_eq_getLast?, List.getLast?_eq_getElem?, List.getElem?_eq_getElem (by omega)]
  rfl
def rbefore (t : List Lime.Nd) (a b : Int) : Bool := decide (b ∈ Lime.listT t (Lime.topT t a)) && decide (plc (Lime.listT t (Lime.topT t a)) a < plc (Lime.listT t (Lime.topT t a)) b)
end
end Go.Proofs.Ytbdokcdnajdmaaa.P
