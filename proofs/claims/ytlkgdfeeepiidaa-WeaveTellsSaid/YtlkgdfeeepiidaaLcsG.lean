/- What the printed Pairs come to; places of lists. -/
import Derived.Test.YtlkgdfeeepiidaaXPairs
import Derived.Test.YtlkgdfeeepiidaaLcsMath
namespace Go.Proofs.Ytlkgdfeeepiidaa.Lcs
open Go.RowKit Go.Proofs.Ytlkgdfeeepiidaa.All Go.Proofs.Ytlkgdfeeepiidaa.XLcs Go.Proofs.YtlkgdfeeepiidaaW.PrintWords Go.Proofs.YtlkgdfeeepiidaaW.PrintLast
theorem wrap_in {x : Int} (h0 : -9223372036854775808 ≤ x) (h1 : x ≤ 9223372036854775807) : wrap64 x = x := by unfold wrap64; omega
theorem Pairs_is (a b : List Int) (ha : a.length ≤ 4000000) (hb : b.length ≤ 4000000) : lcs_Pairs.f a b = some ((prs a b 0 0).map P55) := by
  unfold lcs_Pairs.f; rw [if_pos ⟨ha, hb⟩]
theorem rd_nat (l : List Int) (i : Nat) (h : i < l.length) : rd l (i : Int) = l[i] := by unfold rd; simp [h]
theorem rd_P (ps : List (Nat × Nat)) (j : Nat) (h : j < ps.length) : rd_T55 (ps.map P55) (j : Int) = P55 ps[j] := by unfold rd_T55; simp [h]
theorem P55_f0 (p : Nat × Nat) : (P55 p).f0 = (p.1 : Int) := rfl
theorem P55_f1 (p : Nat × Nat) : (P55 p).f1 = (p.2 : Int) := rfl
end Go.Proofs.Ytlkgdfeeepiidaa.Lcs
