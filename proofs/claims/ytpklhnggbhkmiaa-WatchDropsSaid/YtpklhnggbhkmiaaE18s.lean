/- Plain law: few groups of few; are two the same. No conditions. -/
import Derived.Test.YtpklhnggbhkmiaaE18
import Derived.Test.YtpklhnggbhkmiaaPx3
import Derived.Test.YtpklhnggbhkmiaaPx4
namespace Go.Proofs.Ytpklhnggbhkmiaa.P
open Go.RowKit Go.Proofs.YtpklhnggbhkmiaaW.PrintWords Go.Proofs.YtpklhnggbhkmiaaW.PrintLast Go.Proofs.YtpklhnggbhkmiaaW.PrintMore
open Go.Proofs.Lime (okG openG dropG closeL closeA actA outG okG_iff)
set_option linter.unusedVariables false
set_option linter.unusedSimpArgs false
theorem w1' {i : Nat} (h : i + 1 ≤ 9223372036854775807) : wrap64 ((i : Int) + 1) = ((i + 1 : Nat) : Int) := by unfold wrap64; omega
theorem small_ev (G : List (List Int)) (hG : G.length ≤ 9223372036854775807) (a : Int) (x : Bool) : Ev (fun k => limelightlaw18_small.f k G a x) (sm G) := by
  have key : ∀ d i : Nat, i + d = G.length → (∀ j (h : j < G.length), j < i → G[j].length ≤ 60) → Ev (fun k => limelightlaw18_small.l0 k i G a x) (sm G) := by
    intro d
    induction d with
    | zero =>
      intro i hi hb
      refine Ev.step (fun k => by rw [limelightlaw18_small.l0]) ?_
      refine Ev.no (by omega) (Ev.pure ?_)
      have : G.all (fun g => decide (g.length ≤ 60)) = true := by
        rw [List.all_eq_true]
        intro g hg
        obtain ⟨j, hj, rfl⟩ := List.getElem_of_mem hg
        simpa using hb j hj (by omega)
      unfold sm
      rw [this, Bool.true_and]
      congr 1
      exact decide_eq_decide.2 (by omega)
    | succ d ih =>
      intro i hi hb
      have hlt : i < G.length := by omega
      refine Ev.step (fun k => by rw [limelightlaw18_small.l0]) ?_
      refine Ev.yes (by omega) (Ev.yes (by omega) ?_)
      rw [rd_l1 hlt, w1' (by omega)]
      refine Ev.ite (fun h => Ev.pure ?_) (fun h => ih (i + 1) (by omega) fun j hj hji => ?_)
      · have : sm G = false := by
          rw [← Bool.not_eq_true, sm_iff]
          intro hb
          have := hb.2 _ (List.getElem_mem hlt)
          omega
        rw [this]
      · rcases Nat.lt_or_ge j i with h' | h'
        · exact hb j hj h'
        · obtain rfl : j = i := by omega
          omega
  exact key G.length 0 (Nat.zero_add _) fun j _ h => absurd h (by omega)
theorem same_ev (G H : List (List Int)) (hG : G.length < 1000000) (hGl : ∀ g ∈ G, g.length < 1000000) (a b : Int) (x y : Bool) : Ev (fun k => limelightref18_Same.f k G a x H b y) (decide (G = H ∧ a = b ∧ x = y)) := by
  unfold limelightref18_Same.f
  have jn : ∀ bb : Bool, bb = true → ¬ (G = H ∧ a = b ∧ x = y) → Ev (fun k => limelightref18_Same.j0 k bb G a x H b y) (decide (G = H ∧ a = b ∧ x = y)) := by
    intro bb hb hn
    refine Ev.step (fun k => by rw [limelightref18_Same.j0]) ?_
    exact Ev.yes hb (Ev.pure (by rw [decide_eq_false hn]))
  refine Ev.ite (fun hl => Ev.ite (fun hab => ?_) (fun hab => jn true rfl fun h => hab h.2.1)) (fun hl => jn true rfl fun h => hl (by rw [h.1]))
  have hl' : G.length = H.length := by omega
  by_cases hxy : x = y
  · subst hxy
    refine Ev.step (fun k => by rw [limelightref18_Same.j0]) ?_
    refine Ev.no (by simp) ?_
    rw [show decide (G = H ∧ a = b ∧ x = x) = decide (G = H) from decide_eq_decide.2 (by simp [hab])]
    have key : ∀ d i : Nat, i + d = G.length → (∀ j (h : j < G.length) (h2 : j < H.length), j < i → G[j] = H[j]) → Ev (fun k => limelightref18_Same.l0 k i G a x H b x) (decide (G = H)) := by
      intro d
      induction d with
      | zero =>
        intro i hi hb
        refine Ev.step (fun k => by rw [limelightref18_Same.l0]) ?_
        refine Ev.no (by omega) (Ev.pure ?_)
        rw [decide_eq_true (List.ext_getElem hl' fun j h1 h2 => hb j h1 h2 (by omega))]
      | succ d ih =>
        intro i hi hb
        have hlt : i < G.length := by omega
        have hlt2 : i < H.length := by omega
        have hne : G[i] ≠ H[i] → decide (G = H) = false := fun h => decide_eq_false fun e => h (by subst e; rfl)
        refine Ev.step (fun k => by rw [limelightref18_Same.l0]) ?_
        rw [rd_l1 hlt, rd_l1 hlt2]
        refine Ev.yes (by omega) (Ev.yes (by omega) (Ev.yes (by omega) (Ev.ite (fun hgl => ?_) (fun hgl => Ev.pure ?_))))
        · have hgi := hGl _ (List.getElem_mem hlt)
          have key2 : ∀ d' j : Nat, j + d' = G[i].length → (∀ m (h : m < G[i].length) (h2 : m < H[i].length), m < j → G[i][m] = H[i][m]) → Ev (fun k => limelightref18_Same.l1 k i j G a x H b x) (decide (G = H)) := by
            intro d'
            induction d' with
            | zero =>
              intro j hj hbb
              refine Ev.step (fun k => by rw [limelightref18_Same.l1]) ?_
              rw [rd_l1 hlt, w1 (i := i) (by omega)]
              refine Ev.yes (by omega) (Ev.yes (by omega) (Ev.no (by omega) (ih (i + 1) (by omega) fun m h1 h2 hm => ?_)))
              rcases Nat.lt_or_ge m i with h' | h'
              · exact hb m h1 h2 h'
              · obtain rfl : m = i := by omega
                exact List.ext_getElem (by omega) fun q h1 h2 => hbb q h1 h2 (by omega)
            | succ d' ih' =>
              intro j hj hbb
              have hjl : j < G[i].length := by omega
              have hjl2 : j < H[i].length := by omega
              refine Ev.step (fun k => by rw [limelightref18_Same.l1]) ?_
              rw [rd_l1 hlt, rd_l1 hlt2, rd_nat hjl, rd_nat hjl2, w1 (i := j) (by omega)]
              refine Ev.yes (by omega) (Ev.yes (by omega) (Ev.yes (by omega) (Ev.yes (by omega) (Ev.yes (by omega) (Ev.yes (by omega) (Ev.ite (fun he => ih' (j + 1) (by omega) fun m h1 h2 hm => ?_) (fun he => Ev.pure ?_)))))))
              · rcases Nat.lt_or_ge m j with h' | h'
                · exact hbb m h1 h2 h'
                · obtain rfl : m = j := by omega
                  exact he
              · rw [hne fun e => he (by simp only [e])]
          exact key2 G[i].length 0 (Nat.zero_add _) fun m _ _ h => absurd h (by omega)
        · rw [hne fun e => hgl (by rw [e])]
    exact key G.length 0 (Nat.zero_add _) fun j _ _ h => absurd h (by omega)
  · refine jn _ ?_ fun h => hxy h.2.2
    simpa using hxy
theorem own_f (G : List (List Int)) (a : Int) (x : Bool) : limelightlaw18_own.f G a x = some (G, a, x) := rfl
theorem told_f (G : List (List Int)) (a : Int) (x : Bool) : limelightlaw18_told.f G a x = some (G, a, x) := rfl
end Go.Proofs.Ytpklhnggbhkmiaa.P
