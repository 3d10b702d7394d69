/- Plain law: what the printed functions of shadows tell. No conditions. -/
import Derived.Test.YtbdokcdnajdmaaaER3
import Derived.Test.YtbdokcdnajdmaaaMS
import Derived.Test.YtbdokcdnajdmaaaMP
import Derived.Test.YtbdokcdnajdmaaaPx3
namespace Go.Proofs.Ytbdokcdnajdmaaa.P
open Go.RowKit Go.Proofs.YtbdokcdnajdmaaaW.PrintWords Go.Proofs.YtbdokcdnajdmaaaW.PrintLast Go.Proofs.YtbdokcdnajdmaaaW.PrintMore
open Go.Proofs.Lime (May listT topT upsP parN isN nd mayT dep upsT upN)
set_option linter.unusedVariables false
set_option linter.unusedSimpArgs false
set_option linter.unusedSectionVars false

theorem upsS_len {t : List Lime.Nd} (n : Int) : (Lime.upsS t n).length ≤ t.length + 1 := by
  unfold Lime.upsS
  split
  · exact Lime.chain_le _ _ _
  · simp
def aboveS (t : List Lime.Nd) (a b : Int) : Bool := decide (a ∈ Lime.upsS t b)
theorem aboveS_may {t : List Lime.Nd} (M : May t) {a b : Int} (hb : isN t b = true) : aboveS t a b = decide (a ∈ upsT t b) := by
  unfold aboveS
  rw [show Lime.upsS t b = upsT t b from if_pos ⟨Lime.May.iff.2 M, hb⟩]
theorem upsS_may {t : List Lime.Nd} (M : May t) {a : Int} (ha : isN t a = true) : Lime.upsS t a = upsT t a := if_pos ⟨Lime.May.iff.2 M, ha⟩
theorem hostR_may {t : List Lime.Nd} (M : May t) {a : Int} (ha : isN t a = true) : Lime.hostR t a = Lime.hostT t a := if_pos ⟨Lime.May.iff.2 M, ha⟩
theorem retR_may {t : List Lime.Nd} (M : May t) {a b : Int} (ha : isN t a = true) (hb : isN t b = true) : Lime.retR t a b = Lime.retT t a b := if_pos (by simp [Lime.May.iff.2 M, ha, hb])
section
variable {l : List S53} (hs : Lime.smallT (tr l) = true)
include hs
end
section
variable {l : List S53} (M : May (tr l))
include M
theorem listS_le {n : Int} (hn : isN (tr l) n = true) : (Lime.listS (tr l) n).length ≤ 64 := by
  have := Lime.nodup_isN (M.shade.nodup_pre hn) (fun x hx => ((M.shade.mem_pre hn).1 hx).1)
  have := M.len2
  unfold Lime.listS; omega
theorem rup1_f {n : Int} (hn : isN (tr l) n = true) : limelightref01_Up.f l n = some (upN (tr l) n) := by
  have h1 := isN_lt hn
  unfold limelightref01_Up.f upN
  rw [if_pos h1.1, if_pos h1.2, rd_kind, rd_host, rd_parent]
  split <;> rfl
theorem rup4_l (n : Int) (hn : n = -1 ∨ isN (tr l) n = true) : ∀ acc : List Int, acc.length + (upsT (tr l) n).length < 1000000 → Ev (fun k => limelightref04_Up.l0 k l n acc) (acc ++ upsT (tr l) n) := by
  refine M.up_ind (P := fun n => ∀ acc : List Int, acc.length + (upsT (tr l) n).length < 1000000 → Ev (fun k => limelightref04_Up.l0 k l n acc) (acc ++ upsT (tr l) n)) ?_ ?_ n hn
  · intro acc ha
    refine Ev.step (fun k => by rw [limelightref04_Up.l0]) ?_
    refine Ev.yes rfl (Ev.pure ?_)
    rw [Lime.upsT_none, List.append_nil]
  · intro n hn ih acc ha
    have h1 := isN_lt hn
    rw [M.ups_step hn] at ha ⊢
    simp only [List.length_cons] at ha
    refine Ev.step (fun k => by rw [limelightref04_Up.l0]) ?_
    refine Ev.no (M.ne1 hn) (Ev.yes (by omega) ?_)
    simp only [rup1_f M hn, Option.bind_some]
    have := ih (acc ++ [n]) (by simp; omega)
    rw [List.append_assoc] at this
    exact this
theorem rup4_ev {n : Int} (hn : isN (tr l) n = true) : Ev (fun k => limelightref04_Up.f k l n) (upsT (tr l) n) := by
  have h1 : (upsT (tr l) n).length ≤ (tr l).length := M.dep_le hn
  have h2 := M.len2
  exact rup4_l M n (.inr hn) [] (by simp; omega)
theorem rabove4_ev {b : Int} (a : Int) (hb : isN (tr l) b = true) : Ev (fun k => limelightref04_Above.f k l a b) (decide (a ∈ upsT (tr l) b)) := by
  have h1 : (upsT (tr l) b).length ≤ (tr l).length := M.dep_le hb
  have h2 := M.len2
  refine Ev.bind (rup4_ev M hb) ?_
  exact Ev.bind (f := fun _ t => some t) (in_ev _ _ (by omega)) (Ev.now _)
theorem top_kind {a : Int} (ha : isN (tr l) a = true) : ((nd (tr l) (topT (tr l) a)).kind = 3 ↔ Lime.hostT (tr l) a ≠ -1) ∧ (Lime.hostT (tr l) a ≠ -1 → (nd (tr l) (Lime.hostT (tr l) a)).root = topT (tr l) a) := by
  have ht := M.topT_isN ha
  unfold Lime.hostT
  by_cases h3 : (nd (tr l) (topT (tr l) a)).kind = 3
  · obtain ⟨_, _, h4, _, h5⟩ := M.sh3 ht h3
    exact ⟨⟨fun _ => M.ne1 h4, fun _ => h3⟩, fun _ => h5⟩
  · have h4 := (M.shn ht h3).1
    exact ⟨⟨fun h => absurd h h3, fun h => absurd h4 h⟩, fun h => absurd h4 h⟩
theorem rret4_ev {b : Int} (hb : isN (tr l) b = true) : ∀ (d : Nat) (a : Int), isN (tr l) a = true → dep (tr l) a ≤ d → Ev (fun k => limelightref04_Retarget.f k l a b) (Lime.retT (tr l) a b) := by
  intro d
  induction d with
  | zero => intro a ha hd; rw [M.dep_step ha] at hd; omega
  | succ d ih =>
    intro a ha hd
    have htN := M.topT_isN ha
    have ht := isN_lt htN
    obtain ⟨k1, k2⟩ := top_kind M ha
    refine Ev.step (fun k => by rw [limelightref04_Retarget.f]) ?_
    refine Ev.bind (rtop_ev M ha) ?_
    refine Ev.yes ht.1 (Ev.yes ht.2 ?_)
    rw [rd_kind, rd_host]
    unfold Lime.retT
    rw [M.retT_step ha]
    by_cases h3 : (nd (tr l) (topT (tr l) a)).kind = 3
    · have hh := k1.1 h3
      refine Ev.yes h3 (Ev.bind (rabove4_ev M _ hb) ?_)
      rw [k2 hh]
      by_cases hm : topT (tr l) a ∈ upsT (tr l) b
      · refine Ev.yes (by simpa using hm) (Ev.pure ?_)
        rw [if_neg (by rintro ⟨_, h⟩; exact h hm)]
      · refine Ev.no (by simpa using hm) ?_
        rw [if_pos ⟨hh, hm⟩]
        have hhN := (M.host_or ha).resolve_left hh
        have := M.dep_host ha hh
        exact Ev.bind (f := fun _ t => some t) (ih (Lime.hostT (tr l) a) hhN (by omega)) (Ev.now _)
    · refine Ev.no h3 (Ev.pure ?_)
      rw [if_neg (by rintro ⟨h, _⟩; exact h3 (k1.2 h))]
theorem rret4 {a b : Int} (ha : isN (tr l) a = true) (hb : isN (tr l) b = true) : Ev (fun k => limelightref04_Retarget.f k l a b) (Lime.retT (tr l) a b) := rret4_ev M hb _ a ha (Nat.le_refl _)
end
end Go.Proofs.Ytbdokcdnajdmaaa.P
