/- LcsTells, the plain law: what lists have in common, where, and how alike they are, is as the document says. -/
import Derived.Test.YtlkgdfeeepiidaaF7
import Derived.Test.YtlkgdfeeepiidaaLcsRef
namespace Go.Proofs.Ytlkgdfeeepiidaa.Pure
open Go.RowKit Go.Proofs.Ytlkgdfeeepiidaa.All Go.Proofs.Ytlkgdfeeepiidaa.Lcs Go.Proofs.Ytlkgdfeeepiidaa.XLcs Go.Proofs.YtlkgdfeeepiidaaW.PrintWords Go.Proofs.YtlkgdfeeepiidaaW.PrintLast
set_option linter.unusedSimpArgs false
set_option linter.unusedVariables false
theorem list_l0 (ps : List (Nat × Nat)) (hn : ps.length ≤ 100000) (d : Nat) : ∀ j : Nat, ps.length - j = d → j ≤ ps.length →
    Ev (fun k => emendationlaw04_list.l0 k (ps.map P55) ((ps.take j).map P91) (ps.length : Int) (j : Int)) (ps.map P91) := by
  induction d with
  | zero =>
    intro j hj hj'
    have hje : j = ps.length := by omega
    subst hje
    have z : ¬ (ps.length : Int) < (ps.length : Int) := by omega
    refine ⟨1, fun k hk => ?_⟩
    obtain ⟨m, rfl⟩ : ∃ m, k = m + 1 := ⟨k - 1, by omega⟩
    show emendationlaw04_list.l0 (m + 1) (ps.map P55) ((ps.take ps.length).map P91) (ps.length : Int) (ps.length : Int) = _
    rw [emendationlaw04_list.l0, if_neg z, List.take_of_length_le (Nat.le_refl _)]
  | succ d ih =>
    intro j hj hj'
    have hlt : j < ps.length := by omega
    have w1 := Aside0.mk (wsucc j (by omega))
    have y1 : (j : Int) < (ps.length : Int) := by omega
    have y2 : (0 : Int) ≤ (j : Int) := by omega
    have y3 : ((ps.take j).map P91).length < 8796093022208 := by rw [List.length_map, List.length_take]; omega
    have hs : (ps.take j).map P91 ++ [(⟨(P55 ps[j]).f0, (P55 ps[j]).f1⟩ : S91)] = (ps.take (j + 1)).map P91 := by
      rw [List.take_succ_eq_append_getElem hlt, List.map_append]; rfl
    refine Ev.step (fun k => ?_) (ih (j + 1) (by omega) (by omega))
    rw [emendationlaw04_list.l0, if_pos y1, if_pos y2, List.length_map, if_pos y1, if_pos y3, rd_P ps j hlt, w1.out, hs]
theorem list_ev (ps : List (Nat × Nat)) (hn : ps.length ≤ 100000) : Ev (fun k => emendationlaw04_list.f k (ps.map P55)) (ps.map P91) := by
  have h := list_l0 ps hn _ 0 rfl (Nat.zero_le _)
  refine Ev.congr (fun k => ?_) h
  rw [emendationlaw04_list.f, List.length_map]; rfl
theorem same_l0 (l : List S91) (hn : l.length ≤ 100000) (d : Nat) : ∀ j : Nat, l.length - j = d → j ≤ l.length →
    Ev (fun k => emendationref04_Same.l0 k l l (l.length : Int) (j : Int)) true := by
  induction d with
  | zero =>
    intro j hj hj'
    have z : ¬ (j : Int) < (l.length : Int) := by omega
    refine ⟨1, fun k hk => ?_⟩
    obtain ⟨m, rfl⟩ : ∃ m, k = m + 1 := ⟨k - 1, by omega⟩
    show emendationref04_Same.l0 (m + 1) l l (l.length : Int) (j : Int) = _
    rw [emendationref04_Same.l0, if_neg z]
  | succ d ih =>
    intro j hj hj'
    have w1 := Aside0.mk (wsucc j (by omega))
    have y1 : (j : Int) < (l.length : Int) := by omega
    have y2 : (0 : Int) ≤ (j : Int) := by omega
    refine Ev.step (fun k => ?_) (ih (j + 1) (by omega) (by omega))
    rw [emendationref04_Same.l0, if_pos y1, if_pos y2, if_pos y1, if_pos y1, w1.out, if_neg (by simp)]
theorem refSame_ev (l : List S91) (hn : l.length ≤ 100000) : Ev (fun k => emendationref04_Same.f k l l) true := by
  refine Ev.congr (fun k => ?_) (same_l0 l hn _ 0 rfl (Nat.zero_le _))
  rw [emendationref04_Same.f, if_pos rfl]; rfl
theorem LcsTells : emendationlaw04_LcsTells.Pure := by
  intro a b _ _ _ _ _ _
  by_cases ha : (a.length : Int) > 60
  · refine ⟨1, ?_⟩
    rw [emendationlaw04_LcsTells.f, awake_is, Option.bind_some, if_pos rfl, if_pos ha, emendationlaw04_LcsTells.j0, if_pos rfl, awake_is, Option.bind_some]
  · by_cases hb : (b.length : Int) > 60
    · refine ⟨1, ?_⟩
      rw [emendationlaw04_LcsTells.f, awake_is, Option.bind_some, if_pos rfl, if_neg ha, emendationlaw04_LcsTells.j0, decide_eq_true hb, if_pos rfl, awake_is, Option.bind_some]
    · have hl : (prs a b 0 0).length ≤ 60 := by rw [prs_length0]; have := lcs_le_left a b; omega
      obtain ⟨K1, h1⟩ := RefLength_ev a b (by omega) (by omega)
      obtain ⟨K2, h2⟩ := list_ev (prs a b 0 0) (by omega)
      obtain ⟨K3, h3⟩ := RefPairs_ev a b (by omega) (by omega)
      obtain ⟨K4, h4⟩ := refSame_ev ((prs a b 0 0).map P91) (by rw [List.length_map]; omega)
      obtain ⟨K5, h5⟩ := RefDice_ev a b (by omega) (by omega)
      have e1 : emendationref04_Length.f (K1 + K2 + K3 + K4 + K5) a b = _ := h1 _ (by omega)
      have e2 : emendationlaw04_list.f (K1 + K2 + K3 + K4 + K5) _ = _ := h2 _ (by omega)
      have e3 : emendationref04_Pairs.f (K1 + K2 + K3 + K4 + K5) a b = _ := h3 _ (by omega)
      have e4 : emendationref04_Same.f (K1 + K2 + K3 + K4 + K5) _ _ = _ := h4 _ (by omega)
      have e5 : emendationref04_Dice.f (K1 + K2 + K3 + K4 + K5) a b = _ := h5 _ (by omega)
      refine ⟨K1 + K2 + K3 + K4 + K5 + 1, ?_⟩
      rw [emendationlaw04_LcsTells.f, awake_is, Option.bind_some, if_pos rfl, if_neg ha, emendationlaw04_LcsTells.j0, decide_eq_false hb, if_neg (by decide), Length_is a b (by omega) (by omega), Option.bind_some, e1, Option.bind_some, if_pos rfl,
        Pairs_is a b (by omega) (by omega), Option.bind_some, e2, Option.bind_some, e3, Option.bind_some, e4, Option.bind_some, if_pos rfl, Dice_is a b (by omega) (by omega), Option.bind_some, e5, Option.bind_some]
      simp
end Go.Proofs.Ytlkgdfeeepiidaa.Pure
