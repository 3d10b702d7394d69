/- Walk: a listener dropped; where what is left lies. -/
import Derived.Test.YtaggmjnpocndkaaGreatMH
namespace Go.Proofs.Lime.H
open Go.RowKit
set_option linter.unusedVariables false
set_option linter.unusedSimpArgs false
theorem drop_s_of {S S' : Nat → Prop} {xs xs' : List Hear} {k k' : Int} {w w' : World} {v : Value} (hx : xs = xs') (hk : k = k') (hr : Row hearK S w' v xs') (hS : ∀ b, S b → S' b) (hs : Stp w w') : ∃ u, Ending.returned (.tuple #[v, .int .i64 k']) = .returned (.tuple #[u, .int .i64 k]) ∧ Row hearK S' w' u xs ∧ Stp w w' := ⟨v, by rw [hk], by rw [hx]; exact hr.mono hS, hs⟩
set_option maxHeartbeats 1000000 in
theorem drop_s {S : Nat → Prop} {w : World} {v : Value} {xs : List Hear} (hr : Row hearK S w v xs) (hl : xs.length ≤ 1000) (h : Hear) :
    Calls Tryz.prog 14 #[v, h.val] w fun e w' => ∃ u, e = .returned (.tuple #[u, .int .i64 (hearDropErr xs h)]) ∧ Row hearK (fun b => S b ∨ w.heap.size ≤ b) w' u (hearDrop xs h) ∧ Stp w w' := by
  obtain ⟨A, c, rfl, hc, hm⟩ := hr.form
  by_cases hix : 0 ≤ idx (·.one h) xs
  · obtain ⟨i, hi, hil, _⟩ := idx_nat hix
    have hi' := Lib.hid hi
    have ca := fun W (hW : Stp w W) => at_c (hr.stp hW) h
    rw [hi] at ca
    clear hi hix
    have g1 : ¬ (i : Int) < 0 := by omega
    go_enter Tryz.func14, Tryz.ntmps14
    go_wp2_with (first | (go_at_call 22; refine (may_c h _).mono ?_; rintro e w1 ⟨rfl, hb1⟩; obtain ⟨hc1, hf1⟩ := hb1.bc; have hz1 := hb1.size; (try simp only [World.size_alloc] at hz1 hc1 hf1)) | (go_at_call 23; refine (ca _ Lime.stp_).mono ?_; rintro e w2 ⟨rfl, hb2⟩; clear ca) | (go_at_call 25; refine (clone_c (hr.stp Lime.stp_) hl).mono ?_; rintro e w3 ⟨v3, rfl, ho3, hb3⟩) | (go_at_call 24; refine (delete_c ho3 i hil).mono ?_; rintro e w4 ⟨v4, rfl, ho4, hg4⟩))
    · go_ret2
      exact drop_s_of (hearDrop_1 ‹_›).1 (hearDrop_1 ‹_›).2 (hr.stp Lime.stp_) (fun b hb => .inl hb) Lime.stp_
    · go_ret2
      have hb4 : Stp w w4 := Stp.grown Lime.stp_ hg4 (fun k hk => Nat.le_trans (Stp.size Lime.stp_) (ho3.blk k hk))
      exact drop_s_of (hearDrop_3 ‹_› hi'.out).1 (hearDrop_3 ‹_› hi'.out).2 ho4.reads (fun b hb => .inr (Nat.le_trans (Stp.size Lime.stp_) hb)) hb4
  · have hix' : idx (·.one h) xs < 0 := by omega
    go_enter Tryz.func14, Tryz.ntmps14
    go_wp2_with (first | (go_at_call 22; refine (may_c h _).mono ?_; rintro e w1 ⟨rfl, hb1⟩; obtain ⟨hc1, hf1⟩ := hb1.bc; have hz1 := hb1.size; (try simp only [World.size_alloc] at hz1 hc1 hf1)) | (go_at_call 23; refine (at_c (hr.stp Lime.stp_) h).mono ?_; rintro e w2 ⟨rfl, hb2⟩; obtain ⟨hc2, hf2⟩ := hb2.bc; have hz2 := hb2.size; (try simp only [World.size_alloc] at hz2 hc2 hf2)))
    · go_ret2
      exact drop_s_of (hearDrop_1 ‹_›).1 (hearDrop_1 ‹_›).2 (hr.stp Lime.stp_) (fun b hb => .inl hb) Lime.stp_
    · go_ret2
      exact drop_s_of (hearDrop_2 ‹_› hix').1 (hearDrop_2 ‹_› hix').2 (hr.stp Lime.stp_) (fun b hb => .inl hb) Lime.stp_
end Go.Proofs.Lime.H
