/- What the printed functions of layer 4 come to. -/
import Derived.Test.YtlkgdfeeepiidaaLcsLaws
import Derived.Test.YtlkgdfeeepiidaaF30
namespace Go.Proofs.Ytlkgdfeeepiidaa.Lcs
open Go.RowKit Go.Proofs.Ytlkgdfeeepiidaa.All Go.Proofs.YtlkgdfeeepiidaaW.PrintWords Go.Proofs.YtlkgdfeeepiidaaW.PrintLast
set_option linter.unusedSimpArgs false
theorem wrap_in {x : Int} (h0 : -9223372036854775808 ≤ x) (h1 : x ≤ 9223372036854775807) : wrap64 x = x := by unfold wrap64; omega
theorem Length_is (a b : List Int) (ha : a.length ≤ 4000000) (hb : b.length ≤ 4000000) : lcs_Length.f a b = some (lcs a b : Int) := by
  unfold lcs_Length.f; rw [if_pos ⟨ha, hb⟩]
/-- twice, times 1000, by how many both have. -/
def dice (a b : List Int) : Int := if a.length + b.length = 0 then 1000 else 2000 * (lcs a b : Int) / ((a.length + b.length : Nat) : Int)
theorem Dice_is (a b : List Int) (ha : a.length ≤ 4000000) (hb : b.length ≤ 4000000) : lcs_Dice.f a b = some (dice a b) := by
  have hw : wrap64 ((a.length : Int) + (b.length : Int)) = ((a.length + b.length : Nat) : Int) := by rw [wrap_in (by omega) (by omega)]; omega
  have hle := lcs_le_left a b
  have hw2 : wrap64 (2000 * (lcs a b : Int)) = 2000 * (lcs a b : Int) := wrap_in (by omega) (by omega)
  unfold lcs_Dice.f dice
  rw [hw]
  by_cases h : a.length + b.length = 0
  · rw [if_pos (by omega), if_pos h]
  · have hq : wrap64 (Int.tdiv (2000 * (lcs a b : Int)) ((a.length + b.length : Nat) : Int)) = 2000 * (lcs a b : Int) / ((a.length + b.length : Nat) : Int) := by
      have e : Int.tdiv (2000 * (lcs a b : Int)) ((a.length + b.length : Nat) : Int) = 2000 * (lcs a b : Int) / ((a.length + b.length : Nat) : Int) := Int.tdiv_eq_ediv_of_nonneg (by omega)
      rw [e]
      have h1 : 2000 * (lcs a b : Int) / ((a.length + b.length : Nat) : Int) ≤ 2000 * (lcs a b : Int) := Int.ediv_le_self _ (by omega)
      have h2 : 0 ≤ 2000 * (lcs a b : Int) / ((a.length + b.length : Nat) : Int) := Int.ediv_nonneg (by omega) (by omega)
      exact wrap_in (by omega) (by omega)
    rw [if_neg (by omega), if_neg h, Length_is a b ha hb]
    simp only [Option.bind_some]
    rw [hw2, hq]
theorem awake_is : emendationlaw04_awake.f = some true := by
  unfold emendationlaw04_awake.f
  rw [Length_is _ _ (by simp) (by simp), Dice_is _ _ (by simp) (by simp)]
  have : lcs [1, 2, 3] [2, 3, 1] = 2 := by simp [lcs_cons, lcs_nil_left, lcs_nil_right]
  simp [this, dice]
end Go.Proofs.Ytlkgdfeeepiidaa.Lcs
