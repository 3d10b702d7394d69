/- slices.Insert at []int, of one number: in plain words, by the shelf's theorems. No conditions. -/
import Derived.Test.YtclhmgchllenlaaGrv
import Derived.Shelf.Spec.SlicesInsert
import Derived.Shelf.Spec.SlicesInsertGrow
namespace Go.Proofs.Lime
open Go.RowKit
set_option linter.unusedVariables false
set_option linter.unusedSimpArgs false
def insRen : Go.Shelf.Ren := ⟨fun n => match n with | 21 => 36 | 27 => 52 | 28 => 53 | 35 => 66 | 39 => 70 | n => n, fun n => match n with | 0 => 0 | 3 => 3 | 4 => 4 | 22 => 46 | n => n, fun n => n⟩
theorem insLays : Lays2.n21 Try.prog insRen where
  mixed := by kernel_rfl
  f21 := Try.func36.trans (congrArg some (by kernel_rfl))
  f27 := Try.func52.trans (congrArg some (by kernel_rfl))
  f28 := Try.func53.trans (congrArg some (by kernel_rfl))
  f35 := Try.func66.trans (congrArg some (by kernel_rfl))
  f39 := Try.func70.trans (congrArg some (by kernel_rfl))
  t0 := Try.underlying0
  a0 := Try.isAgg0
  z0 := Try.sizeOf0
  v0 := Try.zeroValue0
  t3 := Try.underlying3
  a3 := Try.isAgg3
  z3 := Try.sizeOf3
  v3 := Try.zeroValue3
  t4 := Try.underlying4
  a4 := Try.isAgg4
  z4 := Try.sizeOf4
  v4 := Try.zeroValue4
  t22 := Try.underlying46
  a22 := Try.isAgg46
  z22 := Try.sizeOf46
  v22 := Try.zeroValue46
  i3 := by kernel_rfl
theorem ins_shift {α : Type} {cs cur c1 c2 : List α} {x : α} {i : Nat} (hi : i ≤ cs.length) (hcur : cur.take cs.length = cs) (h1 : c1 = cur.take (i + 1) ++ cs.drop i ++ cur.drop (i + 1 + (cs.drop i).length)) (h2 : c2 = c1.take i ++ [x] ++ c1.drop (i + 1)) (hl : cs.length + 1 ≤ cur.length) :
    c2.take (cs.length + 1) = cs.take i ++ x :: cs.drop i := by
  have e1 : c1.take i = cs.take i := by
    rw [h1, List.append_assoc, List.take_append_of_le_length (by rw [List.length_take]; omega), List.take_take, ← hcur, List.take_take, Nat.min_eq_left (by omega)]
    rw [Nat.min_eq_left hi]
  have e2 : c1.drop (i + 1) = cs.drop i ++ cur.drop (i + 1 + (cs.drop i).length) := by
    rw [h1, List.append_assoc, List.drop_append_of_le_length (by rw [List.length_take]; omega), List.drop_eq_nil_of_le (by rw [List.length_take]; omega), List.nil_append]
  rw [h2, e1, e2, List.append_assoc, List.singleton_append, ← List.cons_append, ← List.append_assoc]
  have hl2 : (cs.take i ++ x :: cs.drop i).length = cs.length + 1 := by simp; omega
  rw [← hl2, List.take_left]
theorem ins_grow {α : Type} {cs z c0 c1 c2 : List α} {x : α} {i : Nat} (hi : i ≤ cs.length) (h0 : c0 = cs.take i ++ z) (h1 : c1 = c0.take i ++ [x] ++ c0.drop (i + 1)) (h2 : c2 = c1.take (i + 1) ++ cs.drop i ++ c1.drop (i + 1 + (cs.drop i).length)) :
    c2.take (cs.length + 1) = cs.take i ++ x :: cs.drop i := by
  have e0 : c0.take i = cs.take i := by
    rw [h0]
    exact List.take_left' (by rw [List.length_take]; omega)
  have e1 : c1.take (i + 1) = cs.take i ++ [x] := by
    rw [h1, e0]
    exact List.take_left' (by rw [List.length_append, List.length_take, List.length_singleton]; omega)
  have hl2 : (cs.take i ++ x :: cs.drop i).length = cs.length + 1 := by simp; omega
  rw [h2, e1, List.append_assoc (cs.take i), List.singleton_append, ← hl2, List.take_left]
theorem insI_c {S : Nat → Prop} {w : World} {v : Value} {xs : List Int} (ho : Own intK 3 S w v xs) (hl : xs.length ≤ 100000) {i : Nat} (hi : i ≤ xs.length) {x : Int} {vb : Nat} (hvb : w.heap[vb]? = some (.cells #[.int .i64 x] 3 (0, 0))) (hne : v.ownBlock ≠ some vb) :
    Calls Try.prog 36 #[v, .int .i64 i, .slice (some ⟨vb, 0, none⟩) 1 1] w fun e w' => ∃ v', e = .returned v' ∧ Own intK 3 (fun k => v.ownBlock = some k ∨ w.heap.size ≤ k) w' v' (xs.take i ++ x :: xs.drop i) ∧ Kpt (fun b => v.ownBlock = some b) w w' := by
  have hof := own_ints ho
  clear ho
  obtain ⟨hfl, hv⟩ := hof
  have hcx : (w.cell? ⟨vb, 0, none⟩ = some (.int .i64 x)) ∧ w.frozen? ⟨vb, 0, none⟩ = false := inC hvb 0 _ rfl
  have hvs : ∀ j v, ([Value.int .i64 x] : List Value)[j]? = some v → w.cell? ⟨vb, 0 + j, none⟩ = some v := fun j v hj => by
    have : j < 1 := (List.getElem?_eq_some_iff.1 hj).1
    obtain rfl : j = 0 := by omega
    simp only [List.getElem?_cons_zero, Option.some.injEq] at hj
    subst hj
    exact hcx.1
  have h1v : ∀ v ∈ [Value.int .i64 x], v.oneCell' = true := fun v hv => by rw [List.mem_singleton.1 hv]; rfl
  have h1c : ∀ v ∈ xs.map (Value.int .i64), v.oneCell' = true := fun v hv => by
    obtain ⟨y, _, rfl⟩ := List.mem_map.1 hv
    rfl
  have hml : (xs.map (Value.int .i64)).length = xs.length := by simp
  have hres : ∀ (b c : Nat) (W : World) (cur : Array Value), W.heap[b]? = some (.cells cur 3 (0, 0)) → xs.length + 1 ≤ c → c ≤ maxLen → cur.size = c → cur.toList.take (xs.length + 1) = ((xs.take i ++ x :: xs.drop i).map (Value.int .i64)) → W.ownsRow 0 3 1 (.slice (some ⟨b, 0, none⟩) (xs.length + 1) c) (xs.take i ++ x :: xs.drop i).length ((xs.take i ++ x :: xs.drop i).map (Value.int .i64)) := fun b c W cur h1 h2 h3 h4 h5 => by
    have hll : (xs.take i ++ x :: xs.drop i).length = xs.length + 1 := by simp; omega
    rw [hll]
    exact ⟨by simp; omega, .inr ⟨b, c, cur, rfl, Nat.zero_le _, h1, h2, h3, by rw [h4, Nat.mul_one], by rw [Nat.mul_one]; exact h5⟩⟩
  have hmm : (xs.take i ++ x :: xs.drop i).map (Value.int .i64) = (xs.map (Value.int .i64)).take i ++ (.int .i64 x) :: (xs.map (Value.int .i64)).drop i := by rw [List.map_append, List.map_cons, List.map_take, List.map_drop]
  have hgrown : ∀ n c, n ≤ 100001 → n ≤ grownCap w n c 3 ∧ grownCap w n c 3 ≤ maxLen := fun n c hn => ⟨grownCap_ge w n c 3, grownCap_le_maxLen w n c 3 (by simp only [maxLen]; omega)⟩
  have hend : ∀ (base : Option Addr) (c : Nat), v = .slice base xs.length c → i = xs.length → xs.length ≤ c → c < xs.length + 1 → (base = none → xs.length = 0) → (∀ a, base = some a → ∀ j v, (xs.map (Value.int .i64))[j]? = some v → w.cell? (a.add j) = some v) →
      Calls Try.prog 36 #[v, .int .i64 i, .slice (some ⟨vb, 0, none⟩) 1 1] w fun e w' => ∃ v', e = .returned v' ∧ Own intK 3 (fun k => v.ownBlock = some k ∨ w.heap.size ≤ k) w' v' (xs.take i ++ x :: xs.drop i) ∧ Kpt (fun b => v.ownBlock = some b) w w' := by
    rintro base c rfl rfl h1 h2 h3 h4
    have h := Any2.slices_Insert_int_end_grow insLays base xs.length c vb 0 1 1 (xs.map (Value.int .i64)) [.int .i64 x] w (by omega) h1 h2 (by omega) hml rfl h3 h4 hvs h1v
    refine h.mono ?_
    rintro e w' ⟨rfl, rfl⟩
    obtain ⟨g1, g2⟩ := hgrown (xs.length + 1) c (by omega)
    refine ⟨_, rfl, own_of_ints (hres _ _ _ _ (World.alloc_heap_new w.drew _) g1 g2 ?_ ?_) (fun k hk => .inr ?_), Kpt.of_stp ((Stp.refl w).drew.alloc _)⟩
    · simp only [Array.size_append, List.size_toArray, List.length_append, List.length_map, List.length_singleton, size_zeroCells]
      show xs.length + 1 + (grownCap w (xs.length + 1) c 3 - (xs.length + 1)) * 1 = grownCap w (xs.length + 1) c 3
      omega
    · rw [hmm, Array.toList_append, List.take_append_of_le_length (by simp), List.take_of_length_le (by simp), List.take_of_length_le (by simp), List.drop_eq_nil_of_le (by simp)]
    · have : w.heap.size = k := by simpa [Value.ownBlock] using hk
      omega
  rcases hv with ⟨rfl, h0⟩ | ⟨g, cap, cur, rfl, _, hg, hnc, hcm, hcs, htake⟩
  · exact hend none 0 (by rw [h0]) (by omega) (by omega) (by omega) (fun _ => h0) (fun a h => by cases h)
  rw [Nat.mul_one] at hcs htake
  have hgv : vb ≠ g := fun e => hne (by rw [e]; rfl)
  have hcell : ∀ j v, (xs.map (Value.int .i64))[j]? = some v → w.cell? ⟨g, j, none⟩ = some v := fun j v hj => by
    have hjl : j < xs.length := by have := (List.getElem?_eq_some_iff.1 hj).1; simpa using this
    rw [← htake, List.getElem?_take, if_pos hjl] at hj
    simp only [World.cell?, hg]
    simpa using hj
  have hsome : ∀ j, j < cap → (w.cell? ⟨g, 0 + j, none⟩).isSome = true ∧ w.frozen? ⟨g, 0 + j, none⟩ = false := fun j hj => by
    refine ⟨?_, by simp [World.frozen?, hg]⟩
    simp only [World.cell?, hg, Nat.zero_add]
    simp [hcs, hj]
  have hcap : cap ≤ 9223372036854775807 := by simp only [maxLen] at hcm; omega
  have hkg : ∀ (W W' : World), W.grownBy W' (some g) → Kpt (fun b => (Value.slice (some ⟨g, 0, none⟩) xs.length cap).ownBlock = some b) W W' := fun W W' h => Kpt.of_grown h fun k hk => hk
  by_cases hin : i = xs.length
  · by_cases hroom : xs.length + 1 ≤ cap
    · subst hin
      have h := Any2.slices_Insert_int_end_room insLays g 0 xs.length cap vb 0 1 1 [.int .i64 x] w (by omega) hroom hcap rfl (fun j hj => by rw [Nat.add_assoc]; exact (hsome _ (by omega)).1) (fun j hj => by rw [Nat.add_assoc]; exact (hsome _ (by omega)).2) hvs h1v
      refine h.mono ?_
      rintro e w' ⟨rfl, rfl⟩
      obtain ⟨cur2, h1, h2, h3⟩ := setCells_row (e := 3) [.int .i64 x] (0 + xs.length) w cur hg (by simp; omega)
      refine ⟨_, rfl, own_of_ints (hres _ _ _ _ h1 hroom hcm (by rw [h2, hcs]) ?_) (fun k hk => .inl hk), hkg _ _ (setCells_grown g _ _ w)⟩
      rw [h3, hmm, Nat.zero_add, htake, List.take_append_of_le_length (by simp), List.take_of_length_le (by simp), List.take_of_length_le (by simp), List.drop_eq_nil_of_le (by simp)]
    · exact hend _ cap rfl hin hnc (by omega) (fun h => by cases h) (fun a ha j v hj => by
        injection ha with ha
        subst ha
        rw [show (⟨g, 0, none⟩ : Addr).add j = ⟨g, j, none⟩ by unfold Addr.add; split <;> simp_all]
        exact hcell j v hj)
  · have hlt : i < xs.length := by omega
    have hdl : ((xs.map (Value.int .i64)).drop i).length = xs.length - i := by simp
    by_cases hroom : xs.length + 1 ≤ cap
    · have hsh : w.shape? vb = some (3, 1) ∧ w.shape? g = some (3, cap) := by
        constructor
        · simp [World.shape?, hvb]
        · simp [World.shape?, hg, hcs]
      have h := Any2.slices_Insert_int_shift insLays g 0 xs.length cap i vb 0 1 1 (xs.map (Value.int .i64)) [.int .i64 x] w hlt (by omega) hroom hcap hgv hml rfl (fun j v hj => by rw [Nat.zero_add]; exact hcell j v hj) (fun j hj => (hsome j (by omega)).1) (fun j hj => (hsome j (by omega)).2) hvs h1c h1v _ _ _ _ hsh.1 hsh.2 (by omega) hcx.2 (by simp [World.frozen?, hvb])
      refine h.mono ?_
      rintro e w' ⟨rfl, rfl⟩
      obtain ⟨cur1, h1, h2, h3⟩ := setCells_row (e := 3) ((xs.map (Value.int .i64)).drop i) (0 + (i + 1)) w.drew cur hg (by rw [hdl]; omega)
      obtain ⟨cur2, h4, h5, h6⟩ := setCells_row (e := 3) [.int .i64 x] (0 + i) _ cur1 h1 (by simp; omega)
      refine ⟨_, rfl, own_of_ints (hres _ _ _ _ h4 hroom hcm (by rw [h5, h2, hcs]) ?_) (fun k hk => .inl hk), ((Kpt.of_stp (O := fun b => (Value.slice (some ⟨g, 0, none⟩) xs.length cap).ownBlock = some b) (Stp.refl w).drew).trans (hkg _ _ (setCells_grown g _ _ w.drew)) fun k hk => .inl hk).trans (hkg _ _ (setCells_grown g _ _ _)) fun k hk => .inl hk⟩
      rw [hmm, ← hml]
      exact ins_shift (cur := cur.toList) (c1 := cur1.toList) (by rw [hml]; omega) (by rw [hml]; exact htake) (by rw [h3, Nat.zero_add]) (by rw [h6, Nat.zero_add]; rfl) (by rw [show cur.toList.length = cap from hcs]; simpa using hroom)
    · have h := Any2.slices_Insert_int_grow insLays g 0 xs.length cap i vb 0 1 1 (xs.map (Value.int .i64)) [.int .i64 x] w hlt (by omega) hnc (by omega) (by omega) hml rfl (fun j v hj => by rw [Nat.zero_add]; exact hcell j v hj) hvs h1c h1v
      refine h.mono ?_
      rintro e w' ⟨rfl, rfl⟩
      obtain ⟨g1, g2⟩ := hgrown (xs.length + 1) cap (by omega)
      have hsz0 : (((xs.map (Value.int .i64)).take i).toArray ++ Builtin.zeroCells (Value.int .i64 0).cells (xs.length + 1 - i) ++ Builtin.zeroCells (Value.int .i64 0).cells (grownCap w (xs.length + 1) cap 3 - (xs.length + 1))).size = grownCap w (xs.length + 1) cap 3 := by
        simp only [Array.size_append, List.size_toArray, List.length_take, List.length_map, size_zeroCells]
        show min i xs.length + (xs.length + 1 - i) * 1 + (grownCap w (xs.length + 1) cap 3 - (xs.length + 1)) * 1 = _
        rw [Nat.min_eq_left hi]
        omega
      obtain ⟨cur1, h1, h2, h3⟩ := setCells_row (e := 3) [.int .i64 x] i (w.alloc (.cells (((xs.map (Value.int .i64)).take i).toArray ++ Builtin.zeroCells (Value.int .i64 0).cells (xs.length + 1 - i) ++ Builtin.zeroCells (Value.int .i64 0).cells (grownCap w (xs.length + 1) cap 3 - (xs.length + 1))) 3)).drew _ (World.alloc_heap_new w (.cells (((xs.map (Value.int .i64)).take i).toArray ++ Builtin.zeroCells (Value.int .i64 0).cells (xs.length + 1 - i) ++ Builtin.zeroCells (Value.int .i64 0).cells (grownCap w (xs.length + 1) cap 3 - (xs.length + 1))) 3)) (by rw [hsz0]; simp; omega)
      obtain ⟨cur2, h4, h5, h6⟩ := setCells_row (e := 3) ((xs.map (Value.int .i64)).drop i) (i + 1) (((w.alloc (.cells (((xs.map (Value.int .i64)).take i).toArray ++ Builtin.zeroCells (Value.int .i64 0).cells (xs.length + 1 - i) ++ Builtin.zeroCells (Value.int .i64 0).cells (grownCap w (xs.length + 1) cap 3 - (xs.length + 1))) 3)).drew.setCells w.heap.size i [.int .i64 x]).drew) cur1 h1 (by rw [h2, hsz0, hdl]; omega)
      have hs0 : Stp w (w.alloc (.cells (((xs.map (Value.int .i64)).take i).toArray ++ Builtin.zeroCells (Value.int .i64 0).cells (xs.length + 1 - i) ++ Builtin.zeroCells (Value.int .i64 0).cells (grownCap w (xs.length + 1) cap 3 - (xs.length + 1))) 3)).drew := ((Stp.refl w).alloc _).drew
      have hs1 := Stp.grown hs0 (setCells_grown w.heap.size i [.int .i64 x] _) (fun k hk => by injection hk with hk; omega)
      have hs2 := Stp.grown hs1.drew (setCells_grown w.heap.size (i + 1) ((xs.map (Value.int .i64)).drop i) _) (fun k hk => by injection hk with hk; omega)
      refine ⟨_, rfl, own_of_ints (hres _ _ _ _ h4 g1 g2 (by rw [h5, h2, hsz0]; rfl) ?_) (fun k hk => .inr ?_), Kpt.of_stp hs2⟩
      · rw [hmm, ← hml]
        exact ins_grow (c1 := cur1.toList) (c0 := (((xs.map (Value.int .i64)).take i).toArray ++ Builtin.zeroCells (Value.int .i64 0).cells (xs.length + 1 - i) ++ Builtin.zeroCells (Value.int .i64 0).cells (grownCap w (xs.length + 1) cap 3 - (xs.length + 1))).toList) (by rw [hml]; omega) (by simp only [Array.toList_append, List.append_assoc]; rfl) (by rw [h3]; rfl) (by rw [h6])
      · have : w.heap.size = k := by simpa [Value.ownBlock] using hk
        omega
end Go.Proofs.Lime
