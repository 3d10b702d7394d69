/- Walk: what was added is there once; dropped it is gone. -/
import Derived.Test.YtkmmdjfacdkiiaaL8t
import Derived.Test.YtkmmdjfacdkiiaaHearPure
namespace Go.Proofs.Lime
open Go.RowKit
set_option linter.unusedVariables false
set_option linter.unusedSimpArgs false

theorem count_step {α : Type} (p : α → Bool) {l : List α} {k : Nat} (h : k < l.length) : (l.take (k + 1)).countP p = (l.take k).countP p + (if p l[k] then 1 else 0) := by
  rw [List.take_succ_eq_append_getElem h, List.countP_append]
  simp [List.countP_cons]
section
attribute [local go_sem high] eqHear
set_option maxHeartbeats 2000000 in
theorem once_c {S : Nat → Prop} {w : World} {v : Value} {xs : List Hear} (hr : Row hearK S w v xs) :
    Calls Try.prog 5 #[v] w fun e w' => e = .returned (.bool true) ∧ Stp w w' := by
  obtain ⟨A, c, rfl, hc, hm⟩ := hr.form
  by_cases h100 : 100 < xs.length
  · have hz : (100 : Int) < (xs.length : Int) := by omega
    go_enter Try.func5, Try.ntmps5
    go_wp2_with ((go_at_call 8; refine (live_c _).mono ?_; rintro e w1 ⟨rfl, hb1⟩; obtain ⟨hc1, hf1⟩ := hb1.bc; have hz1 := hb1.size; (try simp only [World.size_alloc] at hz1 hc1 hf1)))
    go_ret
    exact ⟨rfl, by (repeat (first | exact Stp.refl _ | assumption | refine Stp.drew ?_ | refine Stp.drewN ?_ _ | refine Stp.alloc ?_ _ | refine Stp.setCell ?_ (by first | omega | (simp; omega) | simp) _ | refine Stp.trans ?_ (by assumption)))⟩
  · have hz : ¬ (100 : Int) < (xs.length : Int) := by omega
    have hl : xs.length ≤ 1000 := by omega
    clear h100
    go_enter Try.func5, Try.ntmps5
    go_wp2
    go_loopg [3, 4] xs.length (fun gg s3 s4 wr => ∃ (k : Nat) (ls : List Hear), k ≤ xs.length ∧ xs.length - k ≤ gg ∧ s4 = .int .i64 k ∧ Stp w wr ∧ Row hearK Any wr s3 ls ∧ Fine ls)
    case atStart => exact ⟨0, [], Nat.zero_le _, by omega, rfl, Stp.refl w, Row.nil _ _ _, fine_nil⟩
    case round =>
      obtain ⟨k, ls, hk, hg, rfl, hb, hL, hF⟩ := hrel
      obtain ⟨A0, c0, rfl, hc0, hm0⟩ := hL.form
      by_cases hlt : k < xs.length
      · have hltz : (k : Int) < (xs.length : Int) := by omega
        obtain ⟨b, o, rfl, hS, hbw, x0, x1, x2, x3, x4⟩ := hear_at (hr.stp hb) k hlt
        generalize hy : xs[k] = y at x0 x1 x2 x3 x4
        clear hy
        have hll : ls.length ≤ 1000 := by have := hF.len; omega
        have fa := Lib.hid (fine_add hF y)
        have na := Lib.hid (count_add hF y)
        have fd := Lib.hid (fine_drop hF y)
        have nd := Lib.hid (count_drop hF y)
        go_wp2_with fail
        have p0 := box_at wr #[.int .i64 y.node, .int .i64 y.type, .bool y.cap, .bool y.once, .int .i64 y.prog] 24 0 (.int .i64 y.node) rfl
        have p1 := box_at wr #[.int .i64 y.node, .int .i64 y.type, .bool y.cap, .bool y.once, .int .i64 y.prog] 24 1 (.int .i64 y.type) rfl
        have p2 := box_at wr #[.int .i64 y.node, .int .i64 y.type, .bool y.cap, .bool y.once, .int .i64 y.prog] 24 2 (.bool y.cap) rfl
        have p3 := box_at wr #[.int .i64 y.node, .int .i64 y.type, .bool y.cap, .bool y.once, .int .i64 y.prog] 24 3 (.bool y.once) rfl
        have p4 := box_at wr #[.int .i64 y.node, .int .i64 y.type, .bool y.cap, .bool y.once, .int .i64 y.prog] 24 4 (.int .i64 y.prog) rfl
        refine (show Calls Try.prog 9 _ _ _ from add_c (hL.stp (by (repeat (first | exact Stp.refl _ | assumption | refine Stp.drew ?_ | refine Stp.drewN ?_ _ | refine Stp.alloc ?_ _ | refine Stp.setCell ?_ (by first | omega | (simp; omega) | simp) _ | refine Stp.trans ?_ (by assumption))))) hll y).mono ?_
        rintro e w1 ⟨v1, rfl, r1, hb1⟩
        generalize hearAdd ls y = la at r1 fa na
        generalize hearAddErr ls y = ka at na
        obtain ⟨A1, c1, rfl, hc1, hm1⟩ := r1.form
        replace p0 := hb1.cell p0
        replace p1 := hb1.cell p1
        replace p2 := hb1.cell p2
        replace p3 := hb1.cell p3
        replace p4 := hb1.cell p4
        clear x0 x1 x2 x3 x4
        go_wp2_with fail
        · clear fa na
          refine (show Calls Try.prog 11 _ _ _ from drop_c (hL.stp (by (repeat (first | exact Stp.refl _ | assumption | refine Stp.drew ?_ | refine Stp.drewN ?_ _ | refine Stp.alloc ?_ _ | refine Stp.setCell ?_ (by first | omega | (simp; omega) | simp) _ | refine Stp.trans ?_ (by assumption))))) hll y).mono ?_
          rintro e w2 ⟨v2, rfl, r2, hb2⟩
          generalize hearDrop ls y = ns at r2 fd nd
          generalize hearDropErr ls y = kn at nd
          obtain ⟨A2, c2, rfl, hc2, hm2⟩ := r2.form
          replace p0 := hb2.cell p0
          replace p1 := hb2.cell p1
          replace p2 := hb2.cell p2
          replace p3 := hb2.cell p3
          replace p4 := hb2.cell p4
          clear r1 hc1 hm1
          go_wp2_with fail
          go_loopg [8, 9] ns.length (fun gg s8 s9 wr2 => ∃ (j cn : Nat), j ≤ ns.length ∧ ns.length - j ≤ gg ∧ s9 = .int .i64 j ∧ s8 = .int .i64 cn ∧ cn ≤ j ∧ Stp w2 wr2 ∧ Aside ((ns.take j).countP (·.one y) = cn))
          case atStart => exact ⟨0, 0, Nat.zero_le _, by omega, rfl, rfl, Nat.le_refl _, by (repeat (first | exact Stp.refl _ | assumption | refine Stp.drew ?_ | refine Stp.drewN ?_ _ | refine Stp.alloc ?_ _ | refine Stp.setCell ?_ (by first | omega | (simp; omega) | simp) _ | refine Stp.trans ?_ (by assumption))), rfl⟩
          case round =>
            obtain ⟨j, cn, hj, hgj, rfl, rfl, hcj, hbj, hcn⟩ := hrel
            replace p0 := hbj.cell p0
            replace p1 := hbj.cell p1
            replace p2 := hbj.cell p2
            replace p3 := hbj.cell p3
            replace p4 := hbj.cell p4
            have hnl := fd.out.len
            by_cases hjt : j < ns.length
            · have hjz : (j : Int) < (ns.length : Int) := by omega
              obtain ⟨b', o', rfl, _, hbw', x0, x1, x2, x3, x4⟩ := hear_at (r2.stp hbj) j hjt
              have hst := Lib.hid (count_step (·.one y) hjt)
              generalize hz : ns[j] = z at x0 x1 x2 x3 x4 hst
              clear hz
              have hB := World.block_lt_of_cell? _ _ p0
              go_wp2
              repeat (go_quiet (fail); try go_wp2)
              · rename_i hq
                have h1 : Aside (z.one y = true) := by simpa [Hear.one, Aside] using hq
                clear hq
                go_roundg (ns.length - (j + 1))
                case measure => omega
                case rel => exact ⟨j + 1, cn + 1, by omega, by omega, by go_num, by go_num, by omega, by (repeat (first | exact Stp.refl _ | assumption | refine Stp.drew ?_ | refine Stp.drewN ?_ _ | refine Stp.alloc ?_ _ | refine Stp.setCell ?_ (by first | omega | (simp; omega) | simp) _ | refine Stp.trans ?_ (by assumption))), by rw [hst.out, hcn.out, h1.out]; rfl⟩
              · rename_i hq
                have h1 : Aside (z.one y = false) := by
                  show z.one y = false
                  cases h : z.one y with
                  | false => rfl
                  | true =>
                    rw [one_iff] at h
                    obtain ⟨h1, h2, h3, h4⟩ := h
                    simp [h1, h2, h3, h4] at hq
                clear hq
                go_roundg (ns.length - (j + 1))
                case measure => omega
                case rel => exact ⟨j + 1, cn, by omega, by omega, by go_num, rfl, by omega, by (repeat (first | exact Stp.refl _ | assumption | refine Stp.drew ?_ | refine Stp.drewN ?_ _ | refine Stp.alloc ?_ _ | refine Stp.setCell ?_ (by first | omega | (simp; omega) | simp) _ | refine Stp.trans ?_ (by assumption))), by rw [hst.out, hcn.out, h1.out]; rfl⟩
            · have hjz : ¬ (j : Int) < (ns.length : Int) := by omega
              have hct : kn = 0 → cn = 0 := fun h0 => by have := nd.out h0; rw [← hcn.out, List.take_of_length_le (by omega)]; exact this
              clear p0 p1 p2 p3 p4
              have hct' := Lib.hid hct
              clear hct
              have hck := (check_fine ns).2 fd.out
              go_wp2_with ((go_at_call 13; refine (check_c (r2.stp (by (repeat (first | exact Stp.refl _ | assumption | refine Stp.drew ?_ | refine Stp.drewN ?_ _ | refine Stp.alloc ?_ _ | refine Stp.setCell ?_ (by first | omega | (simp; omega) | simp) _ | refine Stp.trans ?_ (by assumption))))) 64).mono ?_; rintro e w9 ⟨rfl, hb9⟩; obtain ⟨hc9, hf9⟩ := hb9.bc; have hz9 := hb9.size; (try simp only [World.size_alloc] at hz9 hc9 hf9)))
              · exfalso
                have h1 := hct'.out (by first | assumption | exact eq_of_beq (by assumption))
                rename_i hq
                simp [h1] at hq
              all_goals
                go_roundg (xs.length - (k + 1))
                case measure => omega
                case rel => exact ⟨k + 1, ns, by omega, by omega, by go_num, by (repeat (first | exact Stp.refl _ | assumption | refine Stp.drew ?_ | refine Stp.drewN ?_ _ | refine Stp.alloc ?_ _ | refine Stp.setCell ?_ (by first | omega | (simp; omega) | simp) _ | refine Stp.trans ?_ (by assumption))), r2.stp (by (repeat (first | exact Stp.refl _ | assumption | refine Stp.drew ?_ | refine Stp.drewN ?_ _ | refine Stp.alloc ?_ _ | refine Stp.setCell ?_ (by first | omega | (simp; omega) | simp) _ | refine Stp.trans ?_ (by assumption)))), fd.out⟩
        · clear fd nd
          have hq3 : ((k : Int) % 3 == 2) = false := by assumption
          simp only [hq3]
          go_loopg [8, 9] la.length (fun gg s8 s9 wr2 => ∃ (j cn : Nat), j ≤ la.length ∧ la.length - j ≤ gg ∧ s9 = .int .i64 j ∧ s8 = .int .i64 cn ∧ cn ≤ j ∧ Stp w1 wr2 ∧ Aside ((la.take j).countP (·.one y) = cn))
          case atStart => exact ⟨0, 0, Nat.zero_le _, by omega, rfl, rfl, Nat.le_refl _, by (repeat (first | exact Stp.refl _ | assumption | refine Stp.drew ?_ | refine Stp.drewN ?_ _ | refine Stp.alloc ?_ _ | refine Stp.setCell ?_ (by first | omega | (simp; omega) | simp) _ | refine Stp.trans ?_ (by assumption))), rfl⟩
          case round =>
            obtain ⟨j, cn, hj, hgj, rfl, rfl, hcj, hbj, hcn⟩ := hrel
            replace p0 := hbj.cell p0
            replace p1 := hbj.cell p1
            replace p2 := hbj.cell p2
            replace p3 := hbj.cell p3
            replace p4 := hbj.cell p4
            have hnl := fa.out.len
            by_cases hjt : j < la.length
            · have hjz : (j : Int) < (la.length : Int) := by omega
              obtain ⟨b', o', rfl, _, hbw', x0, x1, x2, x3, x4⟩ := hear_at (r1.stp hbj) j hjt
              have hst := Lib.hid (count_step (·.one y) hjt)
              generalize hz : la[j] = z at x0 x1 x2 x3 x4 hst
              clear hz
              have hB := World.block_lt_of_cell? _ _ p0
              go_wp2
              repeat (go_quiet (fail); try go_wp2)
              · rename_i hq
                have h1 : Aside (z.one y = true) := by simpa [Hear.one, Aside] using hq
                clear hq
                go_roundg (la.length - (j + 1))
                case measure => omega
                case rel => exact ⟨j + 1, cn + 1, by omega, by omega, by go_num, by go_num, by omega, by (repeat (first | exact Stp.refl _ | assumption | refine Stp.drew ?_ | refine Stp.drewN ?_ _ | refine Stp.alloc ?_ _ | refine Stp.setCell ?_ (by first | omega | (simp; omega) | simp) _ | refine Stp.trans ?_ (by assumption))), by rw [hst.out, hcn.out, h1.out]; rfl⟩
              · rename_i hq
                have h1 : Aside (z.one y = false) := by
                  show z.one y = false
                  cases h : z.one y with
                  | false => rfl
                  | true =>
                    rw [one_iff] at h
                    obtain ⟨h1, h2, h3, h4⟩ := h
                    simp [h1, h2, h3, h4] at hq
                clear hq
                go_roundg (la.length - (j + 1))
                case measure => omega
                case rel => exact ⟨j + 1, cn, by omega, by omega, by go_num, rfl, by omega, by (repeat (first | exact Stp.refl _ | assumption | refine Stp.drew ?_ | refine Stp.drewN ?_ _ | refine Stp.alloc ?_ _ | refine Stp.setCell ?_ (by first | omega | (simp; omega) | simp) _ | refine Stp.trans ?_ (by assumption))), by rw [hst.out, hcn.out, h1.out]; rfl⟩
            · have hjz : ¬ (j : Int) < (la.length : Int) := by omega
              have hct : ka = 0 → cn = 1 := fun h0 => by have := na.out h0; rw [← hcn.out, List.take_of_length_le (by omega)]; exact this
              clear p0 p1 p2 p3 p4
              have hct' := Lib.hid hct
              clear hct
              have hck := (check_fine la).2 fa.out
              go_wp2_with ((go_at_call 13; refine (check_c (r1.stp (by (repeat (first | exact Stp.refl _ | assumption | refine Stp.drew ?_ | refine Stp.drewN ?_ _ | refine Stp.alloc ?_ _ | refine Stp.setCell ?_ (by first | omega | (simp; omega) | simp) _ | refine Stp.trans ?_ (by assumption))))) 64).mono ?_; rintro e w9 ⟨rfl, hb9⟩; obtain ⟨hc9, hf9⟩ := hb9.bc; have hz9 := hb9.size; (try simp only [World.size_alloc] at hz9 hc9 hf9)))
              · exfalso
                have h1 := hct'.out (by first | assumption | exact eq_of_beq (by assumption))
                rename_i hq
                simp [h1] at hq
              all_goals
                go_roundg (xs.length - (k + 1))
                case measure => omega
                case rel => exact ⟨k + 1, la, by omega, by omega, by go_num, by (repeat (first | exact Stp.refl _ | assumption | refine Stp.drew ?_ | refine Stp.drewN ?_ _ | refine Stp.alloc ?_ _ | refine Stp.setCell ?_ (by first | omega | (simp; omega) | simp) _ | refine Stp.trans ?_ (by assumption))), r1.stp (by (repeat (first | exact Stp.refl _ | assumption | refine Stp.drew ?_ | refine Stp.drewN ?_ _ | refine Stp.alloc ?_ _ | refine Stp.setCell ?_ (by first | omega | (simp; omega) | simp) _ | refine Stp.trans ?_ (by assumption)))), fa.out⟩
      · have hltz : ¬ (k : Int) < (xs.length : Int) := by omega
        go_wp2_with ((go_at_call 8; refine (live_c _).mono ?_; rintro e w1 ⟨rfl, hb1⟩; obtain ⟨hc1, hf1⟩ := hb1.bc; have hz1 := hb1.size; (try simp only [World.size_alloc] at hz1 hc1 hf1)))
        go_ret
        exact ⟨rfl, by (repeat (first | exact Stp.refl _ | assumption | refine Stp.drew ?_ | refine Stp.drewN ?_ _ | refine Stp.alloc ?_ _ | refine Stp.setCell ?_ (by first | omega | (simp; omega) | simp) _ | refine Stp.trans ?_ (by assumption)))⟩
end
end Go.Proofs.Lime
