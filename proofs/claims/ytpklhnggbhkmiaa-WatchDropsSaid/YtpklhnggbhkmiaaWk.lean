/- Walks: the law's small functions, over lists of lists that are read. -/
import Derived.Test.YtpklhnggbhkmiaaE18s
import Derived.Test.YtpklhnggbhkmiaaWatOpen
namespace Go.Proofs.Lime
open Go.RowKit
set_option linter.unusedVariables false
set_option linter.unusedSimpArgs false
attribute [local go_sem] Oper.semAt_some
theorem own_k (W : World) (A : Option Addr) (n c : Nat) (a : Int) (x : Bool) : Calls Try.prog 15 #[.agg #[.slice A n c, .int .i64 a, .bool x]] W fun e w' => e = .returned (.agg #[.slice A n c, .int .i64 a, .bool x]) ∧ Stp W w' := by
  go_enter Try.func15, Try.ntmps15
  go_wp2
  refine bodyPost_ret (results_cell_row rfl _ _ (W.heap.size + 1) 26 #[.slice A n c, .int .i64 a, .bool x] (0, 0) _ rfl (heap_new _ _ _ (by simp)) Try.underlying26 rfl (by kernel_rfl)) rfl ?_
  exact ⟨rfl, by (exact Lime.stp_)⟩
theorem told_k (W : World) (A : Option Addr) (n c : Nat) (a : Int) (x : Bool) : Calls Try.prog 17 #[.agg #[.slice A n c, .int .i64 a, .bool x]] W fun e w' => e = .returned (.agg #[.slice A n c, .int .i64 a, .bool x]) ∧ Stp W w' := by
  go_enter Try.func17, Try.ntmps17
  go_wp2
  refine bodyPost_ret (results_cell_row rfl _ _ (W.heap.size + 1) 33 #[.slice A n c, .int .i64 a, .bool x] (0, 0) _ rfl (heap_new _ _ _ (by simp)) Try.underlying33 rfl (by kernel_rfl)) rfl ?_
  exact ⟨rfl, by (exact Lime.stp_)⟩
theorem live_k (W : World) : Calls Try.prog 8 #[] W fun e w' => e = .returned (.bool true) ∧ Stp W w' := by
  have h : Go.Proofs.Ytpklhnggbhkmiaa.P.limelightlaw18_live.f = some true := by decide +kernel
  exact (Go.Proofs.Ytpklhnggbhkmiaa.P.limelightlaw18_live.calls true W h).mono fun e w' ⟨h, hb⟩ => ⟨h, ⟨hb⟩⟩
section
variable {S T : Nat → Prop} {W : World} {A B : Option Addr} {n m c d : Nat} {G H : List (List Int)}
theorem ints_at2 (hr : Row intsK S W (.slice A n c) G) (j : Nat) (hj : j < G.length) : ∃ b o A' c', A = some ⟨b, o, none⟩ ∧ S b ∧ b < W.heap.size ∧ W.cell? ⟨b, o + j, none⟩ = some (.slice A' G[j].length c') ∧ Row intK S W (.slice A' G[j].length c') G[j] := by
  obtain ⟨b, o, c', cs, e, hS, hb, ⟨v, rfl, hv⟩, hc⟩ := hr.get j hj
  injection e with e1 e2 e3
  obtain ⟨A', c2, rfl, _, _⟩ := hv.form
  have h1 := hc 0 _ rfl
  rw [show intsK.sz = 1 from rfl, Nat.mul_one, Nat.add_zero] at h1
  exact ⟨b, o, A', c2, e1, hS, hb, h1, hv⟩
theorem small_k (hr : Row intsK S W (.slice A n c) G) (a : Int) (x : Bool) : Calls Try.prog 13 #[.agg #[.slice A n c, .int .i64 a, .bool x]] W fun e w' => e = .returned (.bool (Go.Proofs.Ytpklhnggbhkmiaa.P.sm G)) ∧ Stp W w' := by
  have hC := Go.Proofs.Ytpklhnggbhkmiaa.P.C_lists hr
  obtain ⟨h1, h2, rfl⟩ := hC
  obtain ⟨_, _, _, _, hl⟩ := hr.form
  obtain ⟨k, hk⟩ := Go.Proofs.Ytpklhnggbhkmiaa.P.small_ev G hl a x
  exact (Go.Proofs.Ytpklhnggbhkmiaa.P.limelightlaw18_small.calls k A c G a x _ W h1 h2 (hk k (Nat.le_refl _))).mono fun e w' ⟨h, hb⟩ => ⟨h, ⟨hb⟩⟩
theorem same_k (hr : Row intsK S W (.slice A n c) G) (hr2 : Row intsK T W (.slice B m d) H) (hG : G.length < 1000000) (hGl : ∀ g ∈ G, g.length < 1000000) (a b : Int) (x y : Bool) :
    Calls Try.prog 16 #[.agg #[.slice A n c, .int .i64 a, .bool x], .agg #[.slice B m d, .int .i64 b, .bool y]] W fun e w' => e = .returned (.bool (decide (G = H ∧ a = b ∧ x = y))) ∧ Stp W w' := by
  obtain ⟨h1, h2, rfl⟩ := Go.Proofs.Ytpklhnggbhkmiaa.P.C_lists hr
  obtain ⟨h3, h4, rfl⟩ := Go.Proofs.Ytpklhnggbhkmiaa.P.C_lists hr2
  obtain ⟨k, hk⟩ := Go.Proofs.Ytpklhnggbhkmiaa.P.same_ev G H hG hGl a b x y
  exact (Go.Proofs.Ytpklhnggbhkmiaa.P.limelightref18_Same.calls k A c G a x B d H b y _ W h1 h2 h3 h4 (hk k (Nat.le_refl _))).mono fun e w' ⟨h, hb⟩ => ⟨h, ⟨hb⟩⟩
theorem Nest.read {base k : Nat} {R : Nat → Prop} {v : Value} {L : List (SV × List Int)} (N : Nest base R k W v L) (hm : L.length ≤ k) : Row intsK (fun k => base ≤ k) W v (L.map Prod.snd) := by
  obtain ⟨A, c, rfl, h1, h2⟩ := N.form
  refine ⟨⟨A, c, by rw [List.length_map], by rw [List.length_map]; exact h1, by rw [List.length_map]; exact h2⟩, fun j hj => ?_⟩
  rw [List.length_map] at hj
  obtain ⟨g, cg, e, _, hgb, hgl, _, hc, _⟩ := Nest.at N j hj
  refine ⟨g, 0, cg, [L[j].1.val], by rw [List.length_map]; exact e, hgb, hgl, ⟨_, rfl, ?_⟩, fun i u hu => ?_⟩
  · rw [List.getElem_map]
    exact (N.inn j hj (by omega)).reads.mono fun _ h => h.1
  · have hi : i < 1 := (List.getElem?_eq_some_iff.1 hu).1
    obtain rfl : i = 0 := by omega
    rw [show intsK.sz = 1 from rfl, Nat.mul_one, Nat.add_zero, Nat.zero_add]
    exact hc.trans hu
theorem close_k (hr : Row intsK S W (.slice A n c) G) (hok : okG G = true) (a : Int) (x : Bool) : Calls Try.prog 12 #[.agg #[.slice A n c, .int .i64 a, .bool x]] W fun e w' => ∃ A' c' u, e = .returned (.tuple #[.agg #[.slice A' G.length c', .int .i64 (closeA a), .bool x], u]) ∧ Row intsK (fun k => W.heap.size ≤ k) w' (.slice A' G.length c') G ∧ Row intK (fun _ => True) w' u (closeL G) ∧ Stp W w' := by
  obtain ⟨L, hL, hm⟩ := in2_of_row hr hok
  refine (close_c hL a x).mono ?_
  rintro e w' ⟨v', u, L', rfl, N, hm', hO, _, hst⟩
  have hll : L'.length = L.length := by have := congrArg List.length hm'; simpa using this
  have hr2 := N.read (by omega)
  rw [hm', hm] at hr2
  rw [hm] at hO
  obtain ⟨A', c', rfl, _⟩ := hr2.form
  exact ⟨A', c', u, rfl, hr2, hO.reads.mono fun _ _ => trivial, hst⟩
theorem open_k (hr : Row intsK S W (.slice A n c) G) (hok : okG G = true) (a : Int) (x : Bool) (z : Int) : Calls Try.prog 11 #[.agg #[.slice A n c, .int .i64 a, .bool x], .int .i64 z] W fun e w' => ∃ A' c', e = .returned (.agg #[.slice A' (openG G a z).length c', .int .i64 a, .bool true]) ∧ Row intsK (fun k => W.heap.size ≤ k) w' (.slice A' (openG G a z).length c') (openG G a z) ∧ Stp W w' := by
  obtain ⟨L, hL, hm⟩ := in2_of_row hr hok
  refine (open_c hL a x z).mono ?_
  rintro e w' ⟨v', L', rfl, N, hm', hst⟩
  have hr2 := N.read (Nat.le_refl _)
  rw [hm', hm] at hr2
  obtain ⟨A', c', rfl, _⟩ := hr2.form
  exact ⟨A', c', rfl, hr2, hst⟩
theorem drop_k (hr : Row intsK S W (.slice A n c) G) (hok : okG G = true) (a : Int) (x : Bool) (z : Int) : Calls Try.prog 14 #[.agg #[.slice A n c, .int .i64 a, .bool x], .int .i64 z] W fun e w' => ∃ A' c', e = .returned (.agg #[.slice A' (dropG G z).length c', .int .i64 a, .bool x]) ∧ Row intsK (fun k => W.heap.size ≤ k) w' (.slice A' (dropG G z).length c') (dropG G z) ∧ Stp W w' := by
  obtain ⟨L, hL, hm⟩ := in2_of_row hr hok
  refine (drop_c hL a x z).mono ?_
  rintro e w' ⟨v', L', rfl, N, hm', hst⟩
  have hr2 := N.read (Nat.le_refl _)
  rw [hm', hm] at hr2
  obtain ⟨A', c', rfl, _⟩ := hr2.form
  exact ⟨A', c', rfl, hr2, hst⟩
end
end Go.Proofs.Lime
