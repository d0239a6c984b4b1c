/- Plain facts of the places that the pairs name. -/
import Derived.Test.YtlkgdfeeepiidaaLcsLaws
namespace Go.Proofs.Ytlkgdfeeepiidaa.Lcs
open Go.Proofs.YtlkgdfeeepiidaaW.PrintWords
/-- Each pair names places of both lists where the same stands, none before (i, k). -/
theorem prs_mem (l m : List Int) (i k : Nat) : ∀ p ∈ prs l m i k, i ≤ p.1 ∧ k ≤ p.2 ∧ ∃ (h : p.1 < l.length) (g : p.2 < m.length), l[p.1] = m[p.2] := by
  induction i, k using prs.induct (l := l) (m := m) with
  | case1 i k h he ih =>
    rw [prs_same l m i k h.1 h.2 he]
    intro p hp
    rcases List.mem_cons.1 hp with rfl | hp
    · exact ⟨Nat.le_refl _, Nat.le_refl _, h.1, h.2, he⟩
    · obtain ⟨a, b, c⟩ := ih p hp; exact ⟨by omega, by omega, c⟩
  | case2 i k h he hv ih =>
    rw [prs_down l m i k h.1 h.2 he hv]
    intro p hp; obtain ⟨a, b, c⟩ := ih p hp; exact ⟨by omega, by omega, c⟩
  | case3 i k h he hv ih =>
    rw [prs_right l m i k h.1 h.2 he hv]
    intro p hp; obtain ⟨a, b, c⟩ := ih p hp; exact ⟨by omega, by omega, c⟩
  | case4 i k h => rw [prs_end l m i k h]; intro p hp; cases hp
/-- They rise. -/
theorem prs_rise (l m : List Int) (i k : Nat) : (prs l m i k).Pairwise (fun p q => p.1 < q.1 ∧ p.2 < q.2) := by
  induction i, k using prs.induct (l := l) (m := m) with
  | case1 i k h he ih =>
    rw [prs_same l m i k h.1 h.2 he]
    refine List.Pairwise.cons (fun q hq => ?_) ih
    obtain ⟨a, b, _⟩ := prs_mem l m _ _ q hq
    exact ⟨by show i < q.1; omega, by show k < q.2; omega⟩
  | case2 i k h he hv ih => rw [prs_down l m i k h.1 h.2 he hv]; exact ih
  | case3 i k h he hv ih => rw [prs_right l m i k h.1 h.2 he hv]; exact ih
  | case4 i k h => rw [prs_end l m i k h]; exact List.Pairwise.nil
/-- A list with itself: each place. -/
theorem prs_self (l : List Int) (i : Nat) (j : Nat) (h : i + j < l.length) : (prs l l i i)[j]? = some (i + j, i + j) := by
  induction j generalizing i with
  | zero => rw [prs_same l l i i (by omega) (by omega) rfl]; rfl
  | succ j ih => rw [prs_same l l i i (by omega) (by omega) rfl]; rw [List.getElem?_cons_succ, ih (i + 1) (by omega)]; congr 2 <;> omega
theorem prs_length0 (l m : List Int) : (prs l m 0 0).length = lcs l m := by rw [prs_length]; unfold tv; rfl
end Go.Proofs.Ytlkgdfeeepiidaa.Lcs
