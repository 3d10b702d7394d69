/- Walks: the document's ways up, tops, lists, places. No conditions. -/
import Derived.Test.YtaggmjnpocndkaaGreatMN
import Derived.Deep.Cut
import Derived.Test.YtaggmjnpocndkaaGreatMP
namespace Go.Proofs.Lime
open Go.RowKit
set_option linter.unusedVariables false
set_option linter.unusedSimpArgs false
attribute [local go_sem] Oper.semAt_some
theorem own_one {S : Nat → Prop} {w : World} {B : Nat} {x : Int} (h : w.heap[B]? = some (.cells #[.int .i64 x] 3 (0, 0))) (hS : S B) : Own intK 3 S w (.slice (some ⟨B, 0, none⟩) 1 1) [x] :=
  ⟨fun k hk => by have h' : B = k := by simpa [Value.ownBlock] using hk
                  exact h' ▸ hS, [.int .i64 x], ⟨rfl, .inr ⟨B, 1, _, rfl, Nat.zero_le _, h, Nat.le_refl _, by simp [maxLen], rfl, rfl⟩⟩, each_one rfl⟩
set_option maxRecDepth 100000 in
set_option maxHeartbeats 4000000 in
theorem rup3_c {S : Nat → Prop} {w : World} {v : Value} {t : List Nd} (hr : Row nodeK S w v t) (M : May t) {n : Int} (hn : isN t n = true) :
    Calls Tryz.prog 97 #[v, .int .i64 n] w fun e w' => ∃ u, e = .returned u ∧ Own intK 3 (fun k => w.heap.size ≤ k) w' u (upsP t n) ∧ Stp w w' := by
  have hle : (upsP t n).length ≤ 64 := Nat.le_trans (M.upsP_le hn) M.len2
  obtain ⟨A, c, rfl, hc, hm⟩ := hr.form
  obtain ⟨k0, _, hk0⟩ := isN_nat hn
  obtain ⟨b, o, rfl, _, _, hat⟩ := tree_base hr (by omega)
  have HAT := Lib.hid hat
  clear hat
  go_enter Tryz.func97, Tryz.ntmps97
  go_wp2
  go_loopg [1, 5] (upsP t n).length (fun gg s1 s5 W => ∃ (x : Int) (ys : List Int), s1 = .int .i64 x ∧ (x = -1 ∨ isN t x = true) ∧ (upsP t x).length ≤ gg ∧ Stp w W ∧ Aside (Own intK 3 (fun k => w.heap.size ≤ k) W s5 ys ∧ ys ++ upsP t x = upsP t n))
  case atStart => exact ⟨n, [], rfl, .inr hn, Nat.le_refl _, Stp.refl w, Own.nil _ _ _ _, rfl⟩
  case round =>
    obtain ⟨x, ys, rfl, hx, hg, hst, HA⟩ := hrel
    obtain ⟨ho, hys⟩ := HA.out
    clear HA
    rcases hx with rfl | hx
    · rw [upsP_none, List.append_nil] at hys
      subst hys
      go_wp2
      go_ret
      exact ⟨_, rfl, ho, hst⟩
    · obtain ⟨k, rfl, hk⟩ := isN_nat hx
      have hyl := congrArg List.length hys
      have HS := Lib.hid (M.upsP_step hx)
      rw [HS.out] at hys hyl hg
      rw [List.length_append, List.length_cons] at hyl
      rw [List.length_cons] at hg
      have HP := Lib.hid (M.parN_or hx)
      have HY := Lib.hid hys
      have hkz : (k : Int) < (t.length : Int) := by omega
      have hnz : ((k : Int) != -1) = true := by simp
      have hpp := Lib.hid (show t[k].parent = parN t k by rw [parN, nd_nat hk])
      obtain ⟨_, _, _, _, N⟩ := HAT.out k hk
      have n2 := N.c2
      rw [hpp.out] at n2
      have hle2 : (ys.length + 1) * 8 ≤ 140737488355328 := by omega
      clear N hys hx
      obtain ⟨A5, c5, rfl, _, _⟩ := ho.reads.form
      go_wp2_with (at_builtin; refine wpl_append1 (d := intK) (S := fun k => w.heap.size ≤ k) (T := fun _ => False) rfl (.tmp 8) (.tmp 10) 48 3 _ 8 rfl Tryz.underlying48 infoInt rfl (by decide) (by decide) (.slice A5 ys.length c5) ys (k : Int) [.int .i64 k] rfl rfl rfl (fun _ h => h.elim) ho (fun k hk => Nat.le_trans hst.size hk) hle2 ?_; intro v1 w1 ho1 hg1; have hst1 : Stp w w1 := Stp.grown hst hg1 ho.blk; have p2 := hst1.cell n2)
      go_roundg (upsP t (parN t k)).length
      case measure => omega
      case rel => exact ⟨parN t k, ys ++ [(k : Int)], rfl, HP.out, Nat.le_refl _, hst1, ho1, by rw [List.append_assoc]; exact HY.out⟩
set_option maxRecDepth 100000 in
set_option maxHeartbeats 4000000 in
theorem rup4_c {S : Nat → Prop} {w : World} {v : Value} {t : List Nd} (hr : Row nodeK S w v t) (M : May t) {n : Int} (hn : isN t n = true) :
    Calls Tryz.prog 111 #[v, .int .i64 n] w fun e w' => ∃ u, e = .returned u ∧ Own intK 3 (fun k => w.heap.size ≤ k) w' u (upsT t n) ∧ Stp w w' := by
  have hle : (upsT t n).length ≤ 64 := Nat.le_trans (M.dep_le hn) M.len2
  have hup := fun (k : Nat) (hk : k < t.length) W (h : Stp w W) => rup_c (hr.stp h) hk
  obtain ⟨A, c, rfl, hc, hm⟩ := hr.form
  go_enter Tryz.func111, Tryz.ntmps111
  go_wp2
  go_loopg [1, 5] (upsT t n).length (fun gg s1 s5 W => ∃ (x : Int) (ys : List Int), s1 = .int .i64 x ∧ (x = -1 ∨ isN t x = true) ∧ (upsT t x).length ≤ gg ∧ Stp w W ∧ Aside (Own intK 3 (fun k => w.heap.size ≤ k) W s5 ys ∧ ys ++ upsT t x = upsT t n))
  case atStart => exact ⟨n, [], rfl, .inr hn, Nat.le_refl _, Stp.refl w, Own.nil _ _ _ _, rfl⟩
  case round =>
    obtain ⟨x, ys, rfl, hx, hg, hst, HA⟩ := hrel
    obtain ⟨ho, hys⟩ := HA.out
    clear HA
    rcases hx with rfl | hx
    · rw [upsT_none, List.append_nil] at hys
      subst hys
      go_wp2
      go_ret
      exact ⟨_, rfl, ho, hst⟩
    · obtain ⟨k, rfl, hk⟩ := isN_nat hx
      have hyl := congrArg List.length hys
      have HS := Lib.hid (M.ups_step hx)
      rw [HS.out] at hys hyl hg
      rw [List.length_append, List.length_cons] at hyl
      rw [List.length_cons] at hg
      have HU := Lib.hid (M.up hx)
      have HY := Lib.hid hys
      have hnz : ((k : Int) != -1) = true := by simp
      have hle2 : (ys.length + 1) * 8 ≤ 140737488355328 := by omega
      clear hys hx
      obtain ⟨A5, c5, rfl, _, _⟩ := ho.reads.form
      go_wp2_with (first | (go_at_call 75; refine (hup k hk _ hst1).mono ?_; rintro e w2 ⟨rfl, hb2⟩) | (at_builtin; refine wpl_append1 (d := intK) (S := fun k => w.heap.size ≤ k) (T := fun _ => False) rfl (.tmp 8) (.tmp 10) 48 3 _ 8 rfl Tryz.underlying48 infoInt rfl (by decide) (by decide) (.slice A5 ys.length c5) ys (k : Int) [.int .i64 k] rfl rfl rfl (fun _ h => h.elim) ho (fun k hk => Nat.le_trans hst.size hk) hle2 ?_; intro v1 w1 ho1 hg1; have hst1 : Stp w w1 := Stp.grown hst hg1 ho.blk))
      go_roundg (upsT t (upN t k)).length
      case measure => omega
      case rel => exact ⟨upN t k, ys ++ [(k : Int)], rfl, HU.out, Nat.le_refl _, hst1.trans hb2, ho1.stp hb2, by rw [List.append_assoc]; exact HY.out⟩
theorem rplace3_c {S : Nat → Prop} {w : World} {v : Value} {xs : List Int} (hr : Row intK S w v xs) (n : Int) :
    Calls Tryz.prog 110 #[v, .int .i64 n] w fun e w' => ∃ p : Int, e = .returned (.int .i64 p) ∧ (0 ≤ p ↔ n ∈ xs) ∧ Stp w w' := by
  obtain ⟨A, c, rfl, hc, hm⟩ := hr.form
  go_enter Tryz.func110, Tryz.ntmps110
  go_wp2
  go_loopg [5] xs.length (fun gg s5 wr => ∃ k : Nat, k ≤ xs.length ∧ xs.length - k ≤ gg ∧ s5 = .int .i64 k ∧ Stp w wr ∧ Aside (n ∈ xs ↔ n ∈ xs.drop k))
  case atStart => exact ⟨0, Nat.zero_le _, by omega, rfl, Stp.refl w, Iff.rfl⟩
  case round =>
    obtain ⟨k, hk, hg, rfl, hb, A1⟩ := hrel
    by_cases hlt : k < xs.length
    · have hltz : (k : Int) < (xs.length : Int) := by omega
      obtain ⟨b, o, rfl, hS, hbw, x0⟩ := int_at (hr.stp hb) k hlt
      have B := Lib.hid (show n ∈ xs.drop k ↔ n = xs[k] ∨ n ∈ xs.drop (k + 1) by rw [List.drop_eq_getElem_cons hlt, List.mem_cons])
      generalize xs[k] = y at x0 B
      by_cases hy : y = n
      · have hyz : (y == n) = true := by simpa using hy
        have HE := Lib.hid (show n ∈ xs from A1.out.2 (B.out.2 (.inl hy.symm)))
        clear hy
        go_wp2
        go_ret
        exact ⟨k, rfl, ⟨fun _ => HE.out, fun _ => by omega⟩, hb⟩
      · have hyz : (y == n) = false := by simpa using hy
        have HE := Lib.hid (show n ∈ xs ↔ n ∈ xs.drop (k + 1) from A1.out.trans (B.out.trans ⟨fun h => h.resolve_left fun e => hy e.symm, .inr⟩))
        clear hy
        go_wp2
        go_roundg (xs.length - (k + 1))
        case measure => omega
        case rel => exact ⟨k + 1, by omega, by omega, by go_num, by (exact Lime.stp_), HE.out⟩
    · have hltz : ¬ (k : Int) < (xs.length : Int) := by omega
      have HE := Lib.hid (show ¬ n ∈ xs from fun h => by have h' := A1.out.1 h; rw [List.drop_eq_nil_of_le (by omega)] at h'; exact List.not_mem_nil h')
      go_wp2
      go_ret
      exact ⟨-1, rfl, ⟨fun h => by omega, fun h => absurd h HE.out⟩, hb⟩
theorem rin3_c {S : Nat → Prop} {w : World} {v : Value} {xs : List Int} (hr : Row intK S w v xs) (n : Int) :
    Calls Tryz.prog 95 #[v, .int .i64 n] w fun e w' => e = .returned (.bool (decide (n ∈ xs))) ∧ Stp w w' := by
  have cp := fun W (h : Stp w W) => rplace3_c (hr.stp h) n
  go_enter Tryz.func95, Tryz.ntmps95
  go_wp2_with (go_at_call 110; refine (cp _ Lime.stp_).mono ?_; rintro e w1 ⟨p, rfl, hp, hb1⟩)
  go_ret
  exact ⟨by first | rfl | exact ret_bool (decide_eq_decide.2 hp), hb1⟩
theorem rtop3_c {S : Nat → Prop} {w : World} {v : Value} {t : List Nd} (hr : Row nodeK S w v t) (M : May t) {n : Int} (hn : isN t n = true) :
    Calls Tryz.prog 77 #[v, .int .i64 n] w fun e w' => e = .returned (.int .i64 (topT t n)) ∧ Stp w w' := by
  have hle : (upsP t n).length ≤ 64 := Nat.le_trans (M.upsP_le hn) M.len2
  have h0 : 0 < (upsP t n).length := by rw [M.upsP_step hn]; simp
  have cu := fun W (h : Stp w W) => rup3_c (hr.stp h) M hn
  have HT := Lib.hid (show ∀ h : (upsP t n).length - 1 < (upsP t n).length, topT t n = (upsP t n)[(upsP t n).length - 1] from fun h => by rw [topT, List.getLastD_eq_getLast?, List.getLast?_eq_getElem?, List.getElem?_eq_getElem (by omega)]; rfl)
  generalize upsP t n = xs at hle h0 cu HT
  go_enter Tryz.func77, Tryz.ntmps77
  go_upto_region 2 with (go_at_call 97; refine (cu _ Lime.stp_).mono ?_; rintro e w1 ⟨u1, rfl, o1, hb1⟩; obtain ⟨A1, c1, rfl, hc1, hm1⟩ := o1.reads.form)
  obtain ⟨b, o, rfl, _, _, x0⟩ := int_at o1.reads (xs.length - 1) (by omega)
  rw [← HT.out (by omega)] at x0
  have hzz : ((xs.length : Int) - 1) = ((xs.length - 1 : Nat) : Int) := by omega
  have hz2 : xs.length - 1 < xs.length := by omega
  go_wp2
  go_ret
  exact ⟨rfl, hb1⟩
theorem rabove4_c {S : Nat → Prop} {w : World} {v : Value} {t : List Nd} (hr : Row nodeK S w v t) (M : May t) (a : Int) {n : Int} (hn : isN t n = true) :
    Calls Tryz.prog 98 #[v, .int .i64 a, .int .i64 n] w fun e w' => e = .returned (.bool (decide (a ∈ upsT t n))) ∧ Stp w w' := by
  have cu := fun W (h : Stp w W) => rup4_c (hr.stp h) M hn
  go_enter Tryz.func98, Tryz.ntmps98
  go_wp2_with (first | (go_at_call 111; refine (cu _ Lime.stp_).mono ?_; rintro e w1 ⟨u1, rfl, o1, hb1⟩) | (go_at_call 95; refine (rin3_c o1.reads a).mono ?_; rintro e w2 ⟨rfl, hb2⟩))
  go_ret
  exact ⟨rfl, hb1.trans hb2⟩
end Go.Proofs.Lime
