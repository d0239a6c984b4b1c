/- LcsMore, the plain law: with a number more behind one of the lists there is as much, or one more, in common; behind both one more. -/
import Derived.Test.YtlkgdfeeepiidaaF6
import Derived.Test.YtlkgdfeeepiidaaLcsF
namespace Go.Proofs.Ytlkgdfeeepiidaa.Pure
open Go.RowKit Go.Proofs.Ytlkgdfeeepiidaa.All Go.Proofs.Ytlkgdfeeepiidaa.Lcs Go.Proofs.YtlkgdfeeepiidaaW.PrintWords Go.Proofs.YtlkgdfeeepiidaaW.PrintLast
set_option linter.unusedSimpArgs false

theorem LcsMore : emendationlaw04_LcsMore.Pure := by
  intro a b x _ _ _ _ _ _ _
  refine ⟨1, ?_⟩
  unfold emendationlaw04_LcsMore.f
  rw [awake_is]
  simp only [Option.bind_some, reduceIte]
  by_cases ha : (a.length : Int) > 60
  · rw [if_pos ha]; simp only [emendationlaw04_LcsMore.j0, reduceIte, awake_is, Option.bind_some]
  · rw [if_neg ha]
    by_cases hb : (b.length : Int) > 60
    · simp only [emendationlaw04_LcsMore.j0, decide_eq_true hb, reduceIte, awake_is, Option.bind_some]
    · have ha' : a.length ≤ 60 := by omega
      have hb' : b.length ≤ 60 := by omega
      have hl := lcs_le_left a b
      have q1 := lcs_snoc a b x
      have q2 := lcs_snoc_both a b x
      have hw : wrap64 ((lcs a b : Int) + 1) = (lcs a b : Int) + 1 := wrap_in (by omega) (by omega)
      simp only [emendationlaw04_LcsMore.j0, decide_eq_false hb, Bool.false_eq_true, reduceIte, Option.bind_some, List.nil_append, List.length_nil, Nat.zero_add,
        Length_is a b (by omega) (by omega), Length_is (a ++ [x]) b (by simp; omega) (by omega), Length_is (a ++ [x]) (b ++ [x]) (by simp; omega) (by simp; omega), if_pos (show a.length < 17592186044416 by omega), if_pos (show b.length < 17592186044416 by omega), hw, q2]
      rcases q1 with q1 | q1
      · rw [q1]; simp
      · rw [q1]; simp
end Go.Proofs.Ytlkgdfeeepiidaa.Pure
