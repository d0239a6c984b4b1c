/- LcsPairs, the plain law: pairs rise, the same stands there, there are as many as Length says; turned round there are as many. -/
import Derived.Test.YtlkgdfeeepiidaaF9
import Derived.Test.YtlkgdfeeepiidaaLcsG
namespace Go.Proofs.Ytlkgdfeeepiidaa.Pure
open Go.RowKit Go.Proofs.Ytlkgdfeeepiidaa.All Go.Proofs.Ytlkgdfeeepiidaa.Lcs Go.Proofs.Ytlkgdfeeepiidaa.XLcs Go.Proofs.YtlkgdfeeepiidaaW.PrintWords Go.Proofs.YtlkgdfeeepiidaaW.PrintLast
set_option linter.unusedSimpArgs false
set_option linter.unusedVariables false

theorem common_l0 (a b : List Int) (ps : List (Nat × Nat)) (hn : ps.length ≤ 4000000) (hm : ∀ p ∈ ps, ∃ (h : p.1 < a.length) (g : p.2 < b.length), a[p.1] = b[p.2]) (hr : ps.Pairwise (fun p q => p.1 < q.1 ∧ p.2 < q.2)) (d : Nat) :
    ∀ j : Nat, ps.length - j = d → Ev (fun k => emendationlaw04_common.l0 k a b (ps.map P55) (ps.length : Int) (j : Int)) true := by
  induction d with
  | zero =>
    intro j hj
    refine ⟨1, fun k hk => ?_⟩
    obtain ⟨m, rfl⟩ : ∃ m, k = m + 1 := ⟨k - 1, by omega⟩
    simp only [emendationlaw04_common.l0]
    rw [if_neg (by omega)]
  | succ d ih =>
    intro j hj
    have hlt : j < ps.length := by omega
    obtain ⟨h1, h2, he⟩ := hm ps[j] (List.getElem_mem hlt)
    replace he := Aside0.mk he
    have hj1 : ps.length - (j + 1) = d := by omega
    have hw : wrap64 ((j : Int) + 1) = ((j + 1 : Nat) : Int) := by rw [wrap_in (by omega) (by omega)]; omega
    have c1 : (j : Int) < (ps.length : Int) := by omega
    have c2 : (0 : Int) ≤ (j : Int) := by omega
    have c3 : ¬ ((ps[j].1 : Nat) : Int) < 0 := by omega
    have c4 : ¬ ((ps[j].1 : Nat) : Int) ≥ (a.length : Int) := by omega
    have c5 : ¬ ((ps[j].2 : Nat) : Int) < 0 := by omega
    have c6 : ¬ ((ps[j].2 : Nat) : Int) ≥ (b.length : Int) := by omega
    have c7 : (0 : Int) ≤ ((ps[j].1 : Nat) : Int) := by omega
    have c8 : ((ps[j].1 : Nat) : Int) < (a.length : Int) := by omega
    have c9 : (0 : Int) ≤ ((ps[j].2 : Nat) : Int) := by omega
    have c10 : ((ps[j].2 : Nat) : Int) < (b.length : Int) := by omega
    have c11 : rd a ((ps[j].1 : Nat) : Int) = rd b ((ps[j].2 : Nat) : Int) := by rw [rd_nat a _ h1, rd_nat b _ h2, he.out]
    have e0 := rd_P ps j hlt
    refine Ev.step (fun k => ?_) (ih (j + 1) hj1)
    rw [emendationlaw04_common.l0, if_pos c1, if_pos c2, e0, List.length_map, if_pos c1, P55_f0, P55_f1, if_neg c3, if_neg c4, if_neg c5, if_neg c6, if_pos c7, if_pos c8, if_pos c9, if_pos c10, if_pos c11, hw]
    clear c11 e0
    by_cases hj0 : (j : Int) > 0
    · obtain ⟨i, rfl⟩ : ∃ i, j = i + 1 := ⟨j - 1, by omega⟩
      have hw1 : wrap64 (((i + 1 : Nat) : Int) - 1) = ((i : Nat) : Int) := by rw [wrap_in (by omega) (by omega)]; omega
      have hi : i < ps.length := by omega
      have q := List.pairwise_iff_getElem.1 hr i (i + 1) hi hlt (by omega)
      have e1 : (0 : Int) ≤ (i : Int) := by omega
      have e2 : (i : Int) < (ps.length : Int) := by omega
      have e3 : ¬ ((ps[i].1 : Nat) : Int) ≥ ((ps[i + 1].1 : Nat) : Int) := by omega
      have e4 : ¬ ((ps[i].2 : Nat) : Int) ≥ ((ps[i + 1].2 : Nat) : Int) := by omega
      rw [if_pos hj0, hw1, if_pos e1, if_pos e2, rd_P ps i hi, P55_f0, P55_f1, if_neg e3, if_neg e4]
    · rw [if_neg hj0]
theorem common_ev (a b : List Int) (ha : a.length ≤ 4000000) : Ev (fun k => emendationlaw04_common.f k a b ((prs a b 0 0).map P55)) true := by
  have hl := prs_length0 a b
  have := lcs_le_left a b
  have h := common_l0 a b (prs a b 0 0) (by omega) (fun p hp => (prs_mem a b 0 0 p hp).2.2) (prs_rise a b 0 0) _ 0 rfl
  refine Ev.congr (fun k => ?_) h
  unfold emendationlaw04_common.f
  simp only [List.length_map]; rfl

theorem pairs_l1 (a b x : List Int) (ha : a.length ≤ 60) (hb : b.length ≤ 60) (hx : x = a.reverse) (d : Nat) :
    ∀ j : Nat, b.length - j = d → j ≤ b.length → Ev (fun k => emendationlaw04_LcsPairs.l1 k a b ((prs a b 0 0).map P55) x (b.reverse.take j) (b.length : Int) (j : Int)) true := by
  induction d with
  | zero =>
    intro j hj hj'
    obtain ⟨K, hK⟩ := common_ev a b (by omega)
    have hjb : j = b.length := by omega
    subst hjb
    refine ⟨K + 1, fun k hk => ?_⟩
    obtain ⟨m, rfl⟩ : ∃ m, k = m + 1 := ⟨k - 1, by omega⟩
    have e1 : emendationlaw04_common.f m a b ((prs a b 0 0).map P55) = some true := hK m (by omega)
    have hl := prs_length0 a b
    have l1 := lcs_le_left a b
    have l2 := lcs_le_right a b
    have ht : b.reverse.take b.length = b.reverse := List.take_of_length_le (by simp)
    simp only [emendationlaw04_LcsPairs.l1]
    rw [if_neg (by omega), ht, hx, Length_is a b (by omega) (by omega)]
    simp only [Option.bind_some, e1, if_true, List.length_map, hl]
    rw [Length_is a.reverse b.reverse (by simp; omega) (by simp; omega), lcs_rev, Length_is b a (by omega) (by omega), lcs_comm b a]
    simp only [Option.bind_some, if_true]
    congr 1
    rw [decide_eq_true_eq]; unfold mn; split <;> omega
  | succ d ih =>
    intro j hj hj'
    have hw : wrap64 ((j : Int) + 1) = ((j + 1 : Nat) : Int) := by rw [wrap_in (by omega) (by omega)]; omega
    have hw1 : wrap64 (wrap64 ((b.length : Int) - 1) - (j : Int)) = ((b.length - 1 - j : Nat) : Int) := by rw [wrap_in (x := (b.length : Int) - 1) (by omega) (by omega), wrap_in (by omega) (by omega)]; omega
    refine Ev.step (fun k => ?_) (ih (j + 1) (by omega) (by omega))
    simp only [emendationlaw04_LcsPairs.l1]
    have hr : b.reverse.take (j + 1) = b.reverse.take j ++ [b[b.length - 1 - j]'(by omega)] := by
      rw [List.take_succ_eq_append_getElem (by simp; omega), List.getElem_reverse]
    rw [if_pos (by omega), hw1, if_pos (by omega), if_pos (by omega), if_pos (by simp; omega), rd_nat b _ (by omega), hw, hr]
theorem pairs_l0 (a b : List Int) (ha : a.length ≤ 60) (hb : b.length ≤ 60) (d : Nat) :
    ∀ j : Nat, a.length - j = d → j ≤ a.length → Ev (fun k => emendationlaw04_LcsPairs.l0 k a b ((prs a b 0 0).map P55) (a.reverse.take j) (a.length : Int) (j : Int)) true := by
  induction d with
  | zero =>
    intro j hj hj'
    have hjb : j = a.length := by omega
    subst hjb
    have ht : a.reverse.take a.length = a.reverse := List.take_of_length_le (by simp)
    refine Ev.step (fun k => ?_) (pairs_l1 a b a.reverse ha hb rfl _ 0 rfl (by omega))
    simp only [emendationlaw04_LcsPairs.l0]
    rw [if_neg (by omega), ht]; rfl
  | succ d ih =>
    intro j hj hj'
    have hw : wrap64 ((j : Int) + 1) = ((j + 1 : Nat) : Int) := by rw [wrap_in (by omega) (by omega)]; omega
    have hw1 : wrap64 (wrap64 ((a.length : Int) - 1) - (j : Int)) = ((a.length - 1 - j : Nat) : Int) := by rw [wrap_in (x := (a.length : Int) - 1) (by omega) (by omega), wrap_in (by omega) (by omega)]; omega
    refine Ev.step (fun k => ?_) (ih (j + 1) (by omega) (by omega))
    simp only [emendationlaw04_LcsPairs.l0]
    have hr : a.reverse.take (j + 1) = a.reverse.take j ++ [a[a.length - 1 - j]'(by omega)] := by
      rw [List.take_succ_eq_append_getElem (by simp; omega), List.getElem_reverse]
    rw [if_pos (by omega), hw1, if_pos (by omega), if_pos (by omega), if_pos (by simp; omega), rd_nat a _ (by omega), hw, hr]

theorem LcsPairs : emendationlaw04_LcsPairs.Pure := by
  intro a b _ _ _ _ _ _
  by_cases ha : (a.length : Int) > 60
  · refine ⟨1, ?_⟩
    unfold emendationlaw04_LcsPairs.f
    rw [awake_is]; simp only [Option.bind_some, reduceIte]
    rw [if_pos ha]; simp only [emendationlaw04_LcsPairs.j0, reduceIte, awake_is, Option.bind_some]
  · by_cases hb : (b.length : Int) > 60
    · refine ⟨1, ?_⟩
      unfold emendationlaw04_LcsPairs.f
      rw [awake_is]; simp only [Option.bind_some, reduceIte]
      rw [if_neg ha]; simp only [emendationlaw04_LcsPairs.j0, decide_eq_true hb, reduceIte, awake_is, Option.bind_some]
    · obtain ⟨k, hk⟩ := (pairs_l0 a b (by omega) (by omega) _ 0 rfl (by omega)).rounds
      refine ⟨k + 1, ?_⟩
      unfold emendationlaw04_LcsPairs.f
      rw [awake_is]; simp only [Option.bind_some, reduceIte]
      rw [if_neg ha]; simp only [emendationlaw04_LcsPairs.j0, decide_eq_false hb, Bool.false_eq_true, reduceIte, Pairs_is a b (by omega) (by omega), Option.bind_some]
      simpa using hk
end Go.Proofs.Ytlkgdfeeepiidaa.Pure
