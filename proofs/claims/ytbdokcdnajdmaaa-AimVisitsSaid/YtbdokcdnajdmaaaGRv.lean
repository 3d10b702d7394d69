/- The contract of the document's visits in the print's form. No conditions. -/
import Derived.Test.YtbdokcdnajdmaaaRv
import Derived.Test.YtbdokcdnajdmaaaE07
namespace Go.Proofs.Ytbdokcdnajdmaaa.P
open Go.RowKit Go.Proofs.YtbdokcdnajdmaaaW.PrintWords Go.Proofs.YtbdokcdnajdmaaaW.PrintLast Go.Proofs.YtbdokcdnajdmaaaW.PrintMore
open Go.Proofs.Lime (May listT topT upsP parN isN nd mayT dep upsT upN hostT ofT aimN aimR pathT pathR stopT endT retR)
set_option linter.unusedVariables false
set_option linter.unusedSimpArgs false
set_option linter.unusedSectionVars false

theorem own_of_R {α β : Type} {d : Kd α} {e : Lime.Kd β} (f : β → α) {w : World} {base : Nat} {ok : Nat → Prop} {v : Value} {xs : List β} {t : Nat} (hz : e.sz = d.sz)
    (hK : ∀ T ok x cs, d.M w base ok (f x) cs → e.K T w x cs) (h : Kd.R d t w base ok v (xs.map f)) : Lime.Own e t (fun b => base ≤ b) w v xs := by
  obtain ⟨h0, inner, ho, hlen, hr⟩ := h
  rw [List.length_map] at ho
  refine ⟨fun k hk => ?_, inner, ⟨by rw [hz]; exact ho.1, ?_⟩, fun j hj => ?_⟩
  · rcases ho.2 with ⟨rfl, _⟩ | ⟨g, cap, cur, rfl, hg, _⟩
    · simp [Value.ownBlock] at hk
    · have : g = k := by simpa [Value.ownBlock] using hk
      omega
  · rw [hz]
    exact ho.2.imp id (fun ⟨g, cap, cur, h1, _, h2⟩ => ⟨g, cap, cur, h1, Nat.zero_le _, h2⟩)
  · have := hr j (f xs[j]) (by simp [hj])
    refine ⟨_, hK _ _ _ _ this, fun i u hi => ?_⟩
    rw [List.getElem?_take] at hi
    split at hi
    · rw [List.getElem?_drop] at hi
      rw [hz]; exact hi
    · cases hi
def rv3 (x : Lime.Vis) : S46 := ⟨st3 x.stop, x.phase, x.cap⟩
def limelightref07_Visits.f (l0 : List S53) (a1_0 : Int) (a1_1 : Int) (a1_2 : Int) (a1_3 : Bool) (a1_4 : Bool) (a1_5 : Bool) : Option (List S46) := if (Lime.smallT (tr l0) && (mayT (tr l0) && isN (tr l0) a1_1)) = true then some ((Lime.visL (pathT (tr l0) a1_5 a1_1 a1_2 a1_1) a1_3).map rv3) else none
theorem limelightref07_Visits.calls (A0 : Option Addr) (c0 : Nat) (l0 : List S53) (a1_0 : Int) (a1_1 : Int) (a1_2 : Int) (a1_3 : Bool) (a1_4 : Bool) (a1_5 : Bool) (r : List S46) (w : World) (hr0 : Kd.C k53 w A0 l0.length l0) (hc0 : l0.length ≤ c0) (h : limelightref07_Visits.f l0 a1_0 a1_1 a1_2 a1_3 a1_4 a1_5 = some r) :
    Calls Try.prog 17 #[.slice A0 l0.length c0, .agg #[.int .i64 a1_0, .int .i64 a1_1, .int .i64 a1_2, .bool a1_3, .bool a1_4, .bool a1_5]] w fun e w' => ∃ v0_ : Value, e = .returned (v0_) ∧ Kd.R k46 46 w' w.heap.size (fun _ => True) v0_ r ∧ Below w.heap.size w w' := by
  unfold limelightref07_Visits.f at h
  split at h
  · rename_i hc
    simp only [Bool.and_eq_true] at hc
    obtain ⟨hs, hm, ht⟩ := hc
    obtain rfl := Option.some.inj h
    have M := May.of hm
    have h1 := M.path_len a1_5 a1_1 a1_2 a1_1 (.inr ht)
    have h2 := M.len2
    obtain ⟨k0, hk0⟩ := rpath7_ev hs M ht a1_0 a1_2 a1_3 a1_4 a1_5
    refine (Lime.rvisits_w (p := pathT (tr l0) a1_5 a1_1 a1_2 a1_1) (fun W hW => ?_) (by omega)).mono fun e w' ⟨u, h1, h2, h3⟩ => ⟨u, h1, R_of_own rv3 rfl (fun _ _ x cs h => by rw [show cs = _ from h]; exact k46_mkM _ _ _ (rv3 x)) h2 (fun _ hk => hk), h3.out⟩
    refine (limelightref07_Path.calls k0 A0 c0 l0 a1_0 a1_1 a1_2 a1_3 a1_4 a1_5 _ W (Kd.C_below hr0 hW.out) hc0 (hk0 k0 (Nat.le_refl _))).mono ?_
    rintro e w' ⟨u, rfl, h2, h3⟩
    exact ⟨u, rfl, (own_of_R st3 rfl (fun T ok x cs h => k35_openM h) h2).reads, ⟨h3⟩⟩
  · cases h
theorem rvisits_f {l : List S53} (hs : Lime.smallT (tr l) = true) (hm : mayT (tr l) = true) {tg : Int} (ht : isN (tr l) tg = true) (et re : Int) (bub can comp : Bool) : limelightref07_Visits.f l et tg re bub can comp = some ((Lime.visL (pathT (tr l) comp tg re tg) bub).map rv3) := if_pos (by rw [hs, hm, ht]; rfl)
end Go.Proofs.Ytbdokcdnajdmaaa.P
