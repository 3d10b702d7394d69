/- Lists of numbers as the print tells them, and as my walks do. No conditions. -/
import Derived.Test.YtpklhnggbhkmiaaPx0
import Derived.Test.YtpklhnggbhkmiaaMA
namespace Go.Proofs.Ytpklhnggbhkmiaa.P
open Go.RowKit Go.Proofs.YtpklhnggbhkmiaaW.PrintWords Go.Proofs.YtpklhnggbhkmiaaW.PrintLast Go.Proofs.YtpklhnggbhkmiaaW.PrintMore
set_option linter.unusedVariables false
set_option linter.unusedSimpArgs false

/-- A row that is read, in my words. -/
theorem row_of_C {α β : Type} {d : Kd α} {e : Lime.Kd β} (f : α → β) {w : World} (hz : d.sz = e.sz) (hp : 0 < d.sz) (hK : ∀ x cs, d.K w x cs → e.K (fun _ => True) w (f x) cs) {A : Option Addr} {n c : Nat} {xs : List α} (h : Kd.C d w A n xs) (hc : n ≤ c) :
    Lime.Row e (fun _ => True) w (.slice A n c) (xs.map f) := by
  obtain ⟨hl, hn, hg⟩ := h
  refine ⟨⟨A, c, by simp [hl], by simp [hl]; exact hc, by simp [hl]; exact hn⟩, fun j hj => ?_⟩
  have hj' : j < xs.length := by simpa using hj
  obtain ⟨ad, rfl, hcell⟩ := hg (by omega)
  obtain ⟨cs0, hl0, _, hc0⟩ := hcell 0 xs[0] (List.getElem?_eq_getElem (by omega))
  have h00 := hc0 0 cs0[0] (List.getElem?_eq_getElem (by omega))
  rw [Nat.zero_mul, Nat.add_zero] at h00
  have hsp : ad.spot = none := by
    have e0 : ad.add 0 = ad := by simp [Addr.add]
    rw [e0] at h00
    unfold World.cell? at h00
    split at h00
    · split at h00
      · cases h00
      · rename_i hs; cases hq : ad.spot with
        | none => rfl
        | some s => rw [hq] at hs; simp at hs
    · cases h00
  obtain ⟨b, o, sp⟩ := ad
  simp only at hsp
  subst hsp
  have hadd : ∀ i, (⟨b, o, none⟩ : Addr).add i = ⟨b, o + i, none⟩ := fun i => by unfold Addr.add; split <;> simp_all
  obtain ⟨cs, hcl, hR, hcc⟩ := hcell j xs[j] (List.getElem?_eq_getElem hj')
  refine ⟨b, o, c, cs, by simp [hl], trivial, World.block_lt_of_cell? w _ h00, by simpa using hK _ _ hR, fun i u hi => ?_⟩
  have := hcc i u hi
  rw [hadd, ← Nat.add_assoc, hz] at this
  exact this
theorem ints_of_C {w : World} {A : Option Addr} {n c : Nat} {xs : List Int} (h : Kd.C (Kd.int .i64) w A n xs) (hc : n ≤ c) : Lime.Row Lime.intK (fun _ => True) w (.slice A n c) xs := by
  have := row_of_C (e := Lime.intK) id rfl (by decide) (fun x cs h => h) h hc
  rwa [List.map_id] at this
/-- And back: rows that are read, in the print's words. -/
theorem C_of_row {α β : Type} {d : Kd α} {e : Lime.Kd β} {S : Nat → Prop} (f : β → α) {w : World} (hz : d.sz = e.sz) (hK : ∀ x cs, e.K S w x cs → d.K w (f x) cs) {A : Option Addr} {n c : Nat} {ys : List β} (h : Lime.Row e S w (.slice A n c) ys) : Kd.C d w A n (ys.map f) ∧ n ≤ c ∧ n = ys.length := by
  obtain ⟨A', c', e1, h1, h2⟩ := h.form
  injection e1 with e1 e2 e3
  subst e1 e2 e3
  refine ⟨⟨by simp, h2, fun h0 => ?_⟩, h1, rfl⟩
  obtain ⟨b, o, c', cs, e1, _, _, _, _⟩ := h.get 0 h0
  injection e1 with e1 _ e3
  subst e1 e3
  refine ⟨_, rfl, fun j p hj => ?_⟩
  rw [List.getElem?_map] at hj
  obtain ⟨y, hy, rfl⟩ := Option.map_eq_some_iff.1 hj
  obtain ⟨hjl, rfl⟩ := List.getElem?_eq_some_iff.1 hy
  obtain ⟨b', o', c', cs, e1, _, _, hk, hcc⟩ := h.get j hjl
  injection e1 with e1 _ e3
  injection e1 with e1
  injection e1 with e1 e4
  subst e1 e4 e3
  refine ⟨cs, by rw [hz]; exact e.len hk, hK _ _ hk, fun i u hi => ?_⟩
  have hadd : ∀ i, (⟨b, o, none⟩ : Addr).add i = ⟨b, o + i, none⟩ := fun i => by unfold Addr.add; split <;> simp_all
  rw [hadd, ← Nat.add_assoc, hz]
  exact hcc i u hi
theorem C_ints {S : Nat → Prop} {w : World} {A : Option Addr} {n c : Nat} {xs : List Int} (h : Lime.Row Lime.intK S w (.slice A n c) xs) : Kd.C (Kd.int .i64) w A n xs ∧ n ≤ c ∧ n = xs.length := by
  have := C_of_row (d := Kd.int .i64) id rfl (fun x cs h => h) h
  rwa [List.map_id] at this
def limelightref01_Ints.f (l0 : List Int) (l1 : List Int) : Option Bool := some (l0 == l1)
theorem limelightref01_Ints.calls (A0 : Option Addr) (c0 : Nat) (l0 : List Int) (A1 : Option Addr) (c1 : Nat) (l1 : List Int) (r : Bool) (w : World) (hr0 : Kd.C (Kd.int .i64) w A0 l0.length l0) (hc0 : l0.length ≤ c0) (hr1 : Kd.C (Kd.int .i64) w A1 l1.length l1) (hc1 : l1.length ≤ c1) (h : limelightref01_Ints.f l0 l1 = some r) :
    Calls Try.prog 18 #[.slice A0 l0.length c0, .slice A1 l1.length c1] w fun e w' => e = .returned (.bool r) ∧ Below w.heap.size w w' := by
  obtain rfl := Option.some.inj h
  exact (Lime.ints_c (ints_of_C hr0 hc0) (ints_of_C hr1 hc1)).mono fun e w' ⟨h1, h2⟩ => ⟨h1, h2.out⟩
end Go.Proofs.Ytpklhnggbhkmiaa.P
