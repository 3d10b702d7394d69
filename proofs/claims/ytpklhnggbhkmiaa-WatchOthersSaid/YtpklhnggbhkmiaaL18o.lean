/- Plain law: the statement WatchOthers. No conditions. -/
import Derived.Test.YtpklhnggbhkmiaaE18s
import Derived.Test.YtpklhnggbhkmiaaPx8
namespace Go.Proofs.Ytpklhnggbhkmiaa.P
open Go.RowKit Go.Proofs.YtpklhnggbhkmiaaW.PrintWords Go.Proofs.YtpklhnggbhkmiaaW.PrintLast Go.Proofs.YtpklhnggbhkmiaaW.PrintMore
open Go.Proofs.Lime (okG openG dropG closeL closeA actA outG okG_iff)
set_option linter.unusedVariables false
set_option linter.unusedSimpArgs false
theorem flat_len {G : List (List Int)} {N : Nat} (h : ∀ g ∈ G, g.length ≤ N) : G.flatten.length ≤ G.length * N := by
  induction G with
  | nil => simp
  | cons g G ih =>
    have h1 := ih fun g' hg' => h g' (List.mem_cons_of_mem _ hg')
    have h2 := h g List.mem_cons_self
    rw [List.flatten_cons, List.length_append, List.length_cons, Nat.succ_mul]
    omega
theorem drop_flat (G : List (List Int)) (n : Int) : (dropG G n).flatten = outG n G.flatten := by
  unfold Lime.dropG Lime.outG
  induction G with
  | nil => rfl
  | cons g G ih =>
    rw [List.flatten_cons, List.filter_append, ← ih, List.map_cons, List.filter_cons]
    split
    · rfl
    · rename_i h
      have : g.filter (fun x => !(x == n)) = [] := by
        have h' : ((g.filter (fun x => !(x == n))).length == 0) = true := by simpa using h
        exact List.eq_nil_of_length_eq_zero (by simpa using h')
      rw [this, List.nil_append]
theorem WatchOthers_ok (G : List (List Int)) (hG : G.length ≤ 9223372036854775807) (a : Int) (x : Bool) (n : Int) : ∃ k, limelightlaw18_WatchOthers.f k G a x n = some true := by
  refine Ev.rounds ?_
  unfold limelightlaw18_WatchOthers.f
  refine Ev.bind (small_ev G hG a x) (Ev.ite (fun hs => ?_) (fun _ => live_some))
  have hb := sm_iff.1 hs
  have hok := hb.ok (by omega)
  have hgl := hb.1
  have hO : watch_Open.f G a x n = some (openG G a n, a, true) := if_pos hok
  have hD : watch_Drop.f G a x n = some (dropG G n, a, x) := if_pos hok
  simp only [own_f, told_f, hO, Option.bind_some]
  have hol := open_len G a n
  have hsame : ∀ i (h : i + 1 < G.length) (h2 : i < (openG G a n).length), (openG G a n)[i] = G[i] := by
    intro i h h2
    unfold Lime.openG at h2 ⊢
    split
    · exact List.getElem_append_left (by omega)
    · exact List.getElem_set_ne (by omega) _
  generalize openG G a n = H at hol hsame
  have hHl : G.length ≤ H.length := by rw [hol]; split <;> omega
  refine Ev.no (by omega) ?_
  -- the second half: those dropped
  have half : Ev (fun k => (limelightlaw18_WatchOthers.l1 k n ([] : List Int) 0 G a x (dropG G n) a x)) true := by
    have hbd := hb.dropped n
    have hfl := drop_flat G n
    have hne : ∀ g ∈ dropG G n, g.length ≠ 0 := fun g hg => by
      have := (List.mem_filter.1 hg).2
      simpa using this
    generalize dropG G n = D at hbd hfl hne
    have hfG := flat_len hb.2
    have hfD := flat_len hbd.2
    have hfG2 : G.length * 60 ≤ 3600 := by omega
    have hfD2 : D.length * 60 ≤ 3600 := by have := hbd.1; omega
    have key3 : ∀ d i : Nat, i + d = D.length → Ev (fun k => limelightlaw18_WatchOthers.l3 k (outG n G.flatten) (D.take i).flatten i G a x D a x) true := by
      intro d
      induction d with
      | zero =>
        intro i hi
        refine Ev.step (fun k => by rw [limelightlaw18_WatchOthers.l3]) ?_
        refine Ev.no (by omega) ?_
        rw [List.take_of_length_le (by omega), hfl]
        simp only [limelightref01_Ints.f, Option.bind_some]
        exact Ev.yes (by simp) (Ev.yes (by simp) (Ev.yes (by simp) live_some))
      | succ d ih =>
        intro i hi
        have hlt : i < D.length := by omega
        refine Ev.step (fun k => by rw [limelightlaw18_WatchOthers.l3]) ?_
        rw [rd_l1 hlt, w1 (by omega)]
        have h1 := ih (i + 1) (by omega)
        have hsub : (D.take (i + 1)).flatten = (D.take i).flatten ++ D[i] := by
          rw [List.take_succ_eq_append_getElem hlt, List.flatten_append]; simp
        rw [hsub] at h1
        have hlen : (D.take i).flatten.length + D[i].length ≤ D.flatten.length := by
          have h2 : D.flatten = (D.take (i + 1)).flatten ++ (D.drop (i + 1)).flatten := by rw [← List.flatten_append, List.take_append_drop]
          rw [h2, hsub, List.length_append, List.length_append]; omega
        have := hne _ (List.getElem_mem hlt)
        exact Ev.yes (by omega) (Ev.yes (by omega) (Ev.no (by omega) (Ev.yes (by omega) h1)))
    have key1 : ∀ d i : Nat, i + d = G.length → Ev (fun k => limelightlaw18_WatchOthers.l1 k n (outG n (G.take i).flatten) i G a x D a x) true := by
      intro d
      induction d with
      | zero =>
        intro i hi
        refine Ev.step (fun k => by rw [limelightlaw18_WatchOthers.l1]) ?_
        rw [List.take_of_length_le (by omega)]
        exact Ev.no (by omega) (key3 D.length 0 (Nat.zero_add _))
      | succ d ih =>
        intro i hi
        have hlt : i < G.length := by omega
        have hgi := hb.2 _ (List.getElem_mem hlt)
        have hsub : (G.take (i + 1)).flatten = (G.take i).flatten ++ G[i] := by
          rw [List.take_succ_eq_append_getElem hlt, List.flatten_append]; simp
        have hlen : (G.take i).flatten.length + G[i].length ≤ G.flatten.length := by
          have h2 : G.flatten = (G.take (i + 1)).flatten ++ (G.drop (i + 1)).flatten := by rw [← List.flatten_append, List.take_append_drop]
          rw [h2, hsub, List.length_append, List.length_append]; omega
        have hlo : (outG n (G.take i).flatten).length ≤ (G.take i).flatten.length := List.length_filter_le _ _
        refine Ev.step (fun k => by rw [limelightlaw18_WatchOthers.l1]) ?_
        refine Ev.yes (by omega) ?_
        have key2 : ∀ d' j : Nat, j + d' = G[i].length → Ev (fun k => limelightlaw18_WatchOthers.l2 k n (outG n (G.take i).flatten ++ outG n (G[i].take j)) i j G a x D a x) true := by
          intro d'
          induction d' with
          | zero =>
            intro j hj
            refine Ev.step (fun k => by rw [limelightlaw18_WatchOthers.l2]) ?_
            rw [rd_l1 hlt, w1 (i := i) (by omega)]
            have h1 := ih (i + 1) (by omega)
            rw [hsub] at h1
            have e1 : outG n ((G.take i).flatten ++ G[i]) = outG n (G.take i).flatten ++ outG n (G[i].take j) := by
              have e2 : G[i].take j = G[i] := List.take_of_length_le (by omega)
              rw [e2]; exact List.filter_append _ _
            rw [e1] at h1
            exact Ev.yes (by omega) (Ev.yes (by omega) (Ev.no (by omega) h1))
          | succ d' ih' =>
            intro j hj
            have hjl : j < G[i].length := by omega
            refine Ev.step (fun k => by rw [limelightlaw18_WatchOthers.l2]) ?_
            rw [rd_l1 hlt, rd_nat hjl, w1 (i := j) (by omega)]
            have h1 := ih' (j + 1) (by omega)
            have e1 : outG n (G[i].take (j + 1)) = outG n (G[i].take j) ++ (if G[i][j] = n then [] else [G[i][j]]) := by
              rw [List.take_succ_eq_append_getElem hjl]
              unfold Lime.outG
              rw [List.filter_append, List.filter_cons, List.filter_nil]
              by_cases h : G[i][j] = n <;> simp [h]
            rw [e1] at h1
            have hlo2 : (outG n (G[i].take j)).length ≤ j := Nat.le_trans (List.length_filter_le _ _) (List.length_take_le _ _)
            refine Ev.yes (by omega) (Ev.yes (by omega) (Ev.yes (by omega) (Ev.yes (by omega) (Ev.ite (fun h => ?_) (fun h => Ev.yes ?_ ?_)))))
            · rw [if_pos h, List.append_nil] at h1
              exact h1
            · rw [List.length_append]; omega
            · rw [if_neg h, ← List.append_assoc] at h1
              exact h1
        have := key2 G[i].length 0 (Nat.zero_add _)
        rw [List.take_zero, show outG n [] = [] from rfl, List.append_nil] at this
        exact this
    exact key1 G.length 0 (Nat.zero_add _)
  have key0 : ∀ d i : Nat, i + d = G.length → Ev (fun k => limelightlaw18_WatchOthers.l0 k n i G a x H a true) true := by
    intro d
    induction d with
    | zero =>
      intro i hi
      refine Ev.step (fun k => by rw [limelightlaw18_WatchOthers.l0]) ?_
      rw [w1 (by omega)]
      simp only [own_f, told_f, hD, Option.bind_some]
      exact Ev.no (by omega) half
    | succ d ih =>
      intro i hi
      refine Ev.step (fun k => by rw [limelightlaw18_WatchOthers.l0]) ?_
      rw [w1 (by omega)]
      simp only [own_f, told_f, hD, Option.bind_some]
      refine Ev.ite (fun h => ?_) (fun _ => half)
      have hlt : i + 1 < G.length := by omega
      have hlH : i < H.length := by omega
      rw [rd_l1 hlH, rd_l1 (l := G) (i := i) (by omega), hsame i hlt hlH]
      simp only [limelightref01_Ints.f, Option.bind_some]
      exact Ev.yes (by omega) (Ev.yes (by omega) (Ev.yes (by omega) (Ev.yes (by simp) (ih (i + 1) (by omega)))))
  exact key0 G.length 0 (Nat.zero_add _)
end Go.Proofs.Ytpklhnggbhkmiaa.P
