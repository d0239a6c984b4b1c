/- Plain laws of what two lists have in common: it is the length of the longest list that is a sublist of both. -/
import Derived.Test.YtlkgdfeeepiidaaLcsMath
namespace Go.Proofs.Ytlkgdfeeepiidaa.Lcs
open Go.Proofs.YtlkgdfeeepiidaaW.PrintWords

theorem tail_sub {x a : Int} {t as : List Int} (h : (x :: t).Sublist (a :: as)) : t.Sublist as := by
  cases h with
  | cons _ h => exact (List.sublist_cons_self x t).trans h
  | cons_cons _ h => exact h
theorem head_ne {x a : Int} {t as : List Int} (h : (x :: t).Sublist (a :: as)) (hne : x ≠ a) : (x :: t).Sublist as := by
  cases h with
  | cons _ h => exact h
  | cons_cons _ h => exact absurd rfl hne
/-- No list in common is longer. -/
theorem lcs_ge : ∀ (a b s : List Int), s.Sublist a → s.Sublist b → s.length ≤ lcs a b := by
  intro a b
  induction a, b using lcs.induct with
  | case1 m => intro s h _; rw [List.sublist_nil.1 h]; simp
  | case2 a as => intro s _ h; rw [List.sublist_nil.1 h]; simp
  | case3 as a bs ih =>
    intro s h1 h2
    rw [lcs_cons, if_pos rfl]
    cases s with
    | nil => simp
    | cons x t => have := ih t (tail_sub h1) (tail_sub h2); simp; omega
  | case4 a as b bs h ih1 ih2 =>
    intro s h1 h2
    rw [lcs_cons, if_neg h]
    cases s with
    | nil => simp
    | cons x t =>
      by_cases hx : x = a
      · have := ih2 (x :: t) h1 (head_ne h2 (fun he => h (by rw [← hx, he]))); omega
      · have := ih1 (x :: t) (head_ne h1 hx) h2; omega
/-- There is one as long. -/
theorem lcs_has : ∀ (a b : List Int), ∃ s : List Int, s.Sublist a ∧ s.Sublist b ∧ s.length = lcs a b := by
  intro a b
  induction a, b using lcs.induct with
  | case1 m => exact ⟨[], List.nil_sublist _, List.nil_sublist _, by rw [lcs_nil_left]; rfl⟩
  | case2 a as => exact ⟨[], List.nil_sublist _, List.nil_sublist _, by rw [lcs_nil_right]; rfl⟩
  | case3 as a bs ih =>
    obtain ⟨s, h1, h2, h3⟩ := ih
    exact ⟨a :: s, h1.cons_cons a, h2.cons_cons a, by rw [lcs_cons, if_pos rfl]; simp [h3]⟩
  | case4 a as b bs h ih1 ih2 =>
    obtain ⟨s, h1, h2, h3⟩ := ih1
    obtain ⟨s', h1', h2', h3'⟩ := ih2
    rw [lcs_cons, if_neg h]
    rcases Nat.le_total (lcs as (b :: bs)) (lcs (a :: as) bs) with hle | hle
    · exact ⟨s', h1', h2'.cons b, by omega⟩
    · exact ⟨s, h1.cons a, h2, by omega⟩
theorem lcs_comm (a b : List Int) : lcs a b = lcs b a := by
  obtain ⟨s, h1, h2, h3⟩ := lcs_has a b
  obtain ⟨t, g1, g2, g3⟩ := lcs_has b a
  have := lcs_ge b a s h2 h1
  have := lcs_ge a b t g2 g1
  omega
theorem lcs_rev (a b : List Int) : lcs a.reverse b.reverse = lcs a b := by
  obtain ⟨s, h1, h2, h3⟩ := lcs_has a b
  obtain ⟨t, g1, g2, g3⟩ := lcs_has a.reverse b.reverse
  have := lcs_ge a.reverse b.reverse s.reverse h1.reverse h2.reverse
  have := lcs_ge a b t.reverse (by simpa using g1.reverse) (by simpa using g2.reverse)
  simp at *
  omega
theorem lcs_le_right (a b : List Int) : lcs a b ≤ b.length := by rw [lcs_comm]; exact lcs_le_left b a
theorem lcs_sub {a b : List Int} (h : a.Sublist b) : lcs a b = a.length :=
  Nat.le_antisymm (lcs_le_left a b) (lcs_ge a b a (List.Sublist.refl a) h)
theorem lcs_self (a : List Int) : lcs a a = a.length := lcs_sub (List.Sublist.refl a)
theorem lcs_mono {a a' : List Int} (b : List Int) (h : a.Sublist a') : lcs a b ≤ lcs a' b := by
  obtain ⟨s, h1, h2, h3⟩ := lcs_has a b
  have := lcs_ge a' b s (h1.trans h) h2
  omega
theorem snoc_parts {s a : List Int} {x : Int} (h : s.Sublist (a ++ [x])) : s.Sublist a ∨ ∃ t, s = t ++ [x] ∧ t.Sublist a := by
  obtain ⟨l1, l2, rfl, h1, h2⟩ := List.sublist_append_iff.1 h
  cases h2 with
  | cons _ h2 => rw [List.sublist_nil.1 h2]; left; simpa using h1
  | cons_cons _ h2 => rw [List.sublist_nil.1 h2]; right; exact ⟨l1, rfl, h1⟩
theorem lcs_snoc (a b : List Int) (x : Int) : lcs (a ++ [x]) b = lcs a b ∨ lcs (a ++ [x]) b = lcs a b + 1 := by
  have h0 := lcs_mono (a := a) (a' := a ++ [x]) b (List.sublist_append_left a [x])
  obtain ⟨s, h1, h2, h3⟩ := lcs_has (a ++ [x]) b
  rcases snoc_parts h1 with h | ⟨t, rfl, h⟩
  · have := lcs_ge a b s h h2; omega
  · have := lcs_ge a b t h ((List.sublist_append_left t [x]).trans h2); simp at h3; omega
theorem lcs_snoc_both (a b : List Int) (x : Int) : lcs (a ++ [x]) (b ++ [x]) = lcs a b + 1 := by
  apply Nat.le_antisymm
  · obtain ⟨s, h1, h2, h3⟩ := lcs_has (a ++ [x]) (b ++ [x])
    rcases snoc_parts h1 with h | ⟨t, rfl, h⟩
    · rcases snoc_parts h2 with g | ⟨t, rfl, g⟩
      · have := lcs_ge a b s h g; omega
      · have := lcs_ge a b t ((List.sublist_append_left t [x]).trans h) g; simp at h3; omega
    · rcases snoc_parts h2 with g | ⟨t', e, g⟩
      · have := lcs_ge a b t h ((List.sublist_append_left t [x]).trans g); simp at h3; omega
      · have e' := List.append_inj_left' e rfl
        subst e'
        have := lcs_ge a b t h g; simp at h3; omega
  · obtain ⟨s, h1, h2, h3⟩ := lcs_has a b
    have := lcs_ge (a ++ [x]) (b ++ [x]) (s ++ [x]) (h1.append (List.Sublist.refl _)) (h2.append (List.Sublist.refl _))
    simp at this; omega
theorem lcs_none (a b : List Int) (h : ∀ x ∈ a, x ∉ b) : lcs a b = 0 := by
  obtain ⟨s, h1, h2, h3⟩ := lcs_has a b
  cases s with
  | nil => simpa using h3.symm
  | cons x t => exact absurd (h2.subset (List.mem_cons_self ..)) (h x (h1.subset (List.mem_cons_self ..)))
theorem lcs_filter (a b : List Int) (p : Int → Bool) (hp : ∀ x, p x = true ↔ x ∈ b) : lcs a b ≤ (a.filter p).length := by
  obtain ⟨s, h1, h2, h3⟩ := lcs_has a b
  have hs : s.filter p = s := List.filter_eq_self.2 fun x hx => (hp x).2 (h2.subset hx)
  have := (h1.filter p).length_le
  rw [hs] at this
  omega
end Go.Proofs.Ytlkgdfeeepiidaa.Lcs
