/- Plain words on what two lists have in common. No program here. -/
import Derived.Test.YtlkgdfeeepiidaaWWords
namespace Go.Proofs.Ytlkgdfeeepiidaa.Lcs
open Go.Proofs.YtlkgdfeeepiidaaW.PrintWords

/-- The most that two lists have in common. -/
def lcs : List Int → List Int → Nat
  | [], _ => 0
  | _ :: _, [] => 0
  | a :: as, b :: bs => if a = b then lcs as bs + 1 else max (lcs as (b :: bs)) (lcs (a :: as) bs)
termination_by as bs => as.length + bs.length
theorem lcs_nil_left (m : List Int) : lcs [] m = 0 := by unfold lcs; rfl
theorem lcs_nil_right (l : List Int) : lcs l [] = 0 := by cases l <;> (unfold lcs; rfl)
theorem lcs_cons (a b : Int) (as bs : List Int) : lcs (a :: as) (b :: bs) = if a = b then lcs as bs + 1 else max (lcs as (b :: bs)) (lcs (a :: as) bs) := by rw [lcs]
theorem lcs_le_left : ∀ (l m : List Int), lcs l m ≤ l.length := by
  intro l m
  induction l, m using lcs.induct with
  | case1 m => rw [lcs_nil_left]; simp
  | case2 a as => rw [lcs_nil_right]; simp
  | case3 a as bs ih => rw [lcs_cons, if_pos rfl]; simp; exact ih
  | case4 a as b bs h ih1 ih2 => rw [lcs_cons, if_neg h]; simp at ih1 ih2 ⊢; omega
/-- From two places on. -/
def tv (l m : List Int) (i k : Nat) : Nat := lcs (l.drop i) (m.drop k)
theorem tv_left (l m : List Int) (i k : Nat) (h : l.length ≤ i) : tv l m i k = 0 := by unfold tv; rw [List.drop_eq_nil_of_le h, lcs_nil_left]
theorem tv_right (l m : List Int) (i k : Nat) (h : m.length ≤ k) : tv l m i k = 0 := by unfold tv; rw [List.drop_eq_nil_of_le h, lcs_nil_right]
theorem tv_eq (l m : List Int) (i k : Nat) (hi : i < l.length) (hk : k < m.length) :
    tv l m i k = if l[i] = m[k] then tv l m (i + 1) (k + 1) + 1 else max (tv l m (i + 1) k) (tv l m i (k + 1)) := by
  unfold tv
  rw [List.drop_eq_getElem_cons hi, List.drop_eq_getElem_cons hk, lcs_cons]
theorem tv_le (l m : List Int) (i k : Nat) : tv l m i k ≤ l.length := by
  unfold tv; have := lcs_le_left (l.drop i) (m.drop k); simp at this; omega

/-- The table when all from q on is reckoned. -/
def hadL (l m : List Int) (q : Nat) : List Int := (List.range (l.length * m.length)).map fun j => if q ≤ j then (tv l m (j / m.length) (j % m.length) : Int) else 0
theorem hadL_length (l m : List Int) (q : Nat) : (hadL l m q).length = l.length * m.length := by simp [hadL]
theorem hadL_all (l m : List Int) : hadL l m (l.length * m.length) = List.replicate (l.length * m.length) 0 := by
  apply List.ext_getElem
  · simp [hadL]
  · intro i h1 h2
    simp [hadL] at h1 ⊢
    omega
theorem hadL_get (l m : List Int) (q i k : Nat) (hi : i < l.length) (hk : k < m.length) (hq : q ≤ i * m.length + k) : rd (hadL l m q) ((i * m.length + k : Nat) : Int) = (tv l m i k : Int) := by
  have hlt : i * m.length + k < l.length * m.length := by
    have : (i + 1) * m.length ≤ l.length * m.length := Nat.mul_le_mul_right _ (by omega)
    rw [Nat.add_mul] at this; omega
  have hd : (i * m.length + k) / m.length = i := by
    rw [Nat.mul_comm, Nat.mul_add_div (by omega), Nat.div_eq_of_lt hk]; omega
  have hm : (i * m.length + k) % m.length = k := by
    rw [Nat.mul_comm, Nat.mul_add_mod, Nat.mod_eq_of_lt hk]
  unfold rd hadL
  rw [Int.toNat_natCast, List.getD_eq_getElem?_getD, List.getElem?_map, List.getElem?_range hlt]
  simp [hq, hd, hm]
theorem hadL_set (l m : List Int) (n : Nat) : (hadL l m (n + 1)).set n (tv l m (n / m.length) (n % m.length) : Int) = hadL l m n := by
  apply List.ext_getElem
  · simp [hadL]
  · intro j h1 h2
    simp [hadL] at h1 h2
    simp only [List.getElem_set, hadL, List.getElem_map, List.getElem_range]
    by_cases hj : n = j
    · subst hj; simp
    · rw [if_neg hj]
      by_cases hq : n ≤ j
      · rw [if_pos hq, if_pos (by omega)]
      · rw [if_neg hq, if_neg (by omega)]

/-- Where both have the same, from two places on. -/
def prs (l m : List Int) (i k : Nat) : List (Nat × Nat) :=
  if h : i < l.length ∧ k < m.length then
    if l[i]'h.1 = m[k]'h.2 then (i, k) :: prs l m (i + 1) (k + 1)
    else if tv l m i (k + 1) ≤ tv l m (i + 1) k then prs l m (i + 1) k
    else prs l m i (k + 1)
  else []
termination_by (l.length - i) + (m.length - k)
theorem prs_end (l m : List Int) (i k : Nat) (h : ¬ (i < l.length ∧ k < m.length)) : prs l m i k = [] := by rw [prs, dif_neg h]
theorem prs_same (l m : List Int) (i k : Nat) (hi : i < l.length) (hk : k < m.length) (he : l[i] = m[k]) : prs l m i k = (i, k) :: prs l m (i + 1) (k + 1) := by
  rw [prs, dif_pos ⟨hi, hk⟩, if_pos he]
theorem prs_down (l m : List Int) (i k : Nat) (hi : i < l.length) (hk : k < m.length) (he : ¬ l[i] = m[k]) (hv : tv l m i (k + 1) ≤ tv l m (i + 1) k) : prs l m i k = prs l m (i + 1) k := by
  rw [prs, dif_pos ⟨hi, hk⟩, if_neg he, if_pos hv]
theorem prs_right (l m : List Int) (i k : Nat) (hi : i < l.length) (hk : k < m.length) (he : ¬ l[i] = m[k]) (hv : ¬ tv l m i (k + 1) ≤ tv l m (i + 1) k) : prs l m i k = prs l m i (k + 1) := by
  rw [prs, dif_pos ⟨hi, hk⟩, if_neg he, if_neg hv]
/-- As many as can be had. -/
theorem prs_length (l m : List Int) (i k : Nat) : (prs l m i k).length = tv l m i k := by
  induction i, k using prs.induct (l := l) (m := m) with
  | case1 i k h he ih => rw [prs_same l m i k h.1 h.2 he, tv_eq l m i k h.1 h.2, if_pos he]; simp [ih]
  | case2 i k h he hv ih => rw [prs_down l m i k h.1 h.2 he hv, tv_eq l m i k h.1 h.2, if_neg he, ih]; omega
  | case3 i k h he hv ih => rw [prs_right l m i k h.1 h.2 he hv, tv_eq l m i k h.1 h.2, if_neg he, ih]; omega
  | case4 i k h =>
    rw [prs_end l m i k h]
    by_cases hi : i < l.length
    · rw [tv_right l m i k (by omega)]; rfl
    · rw [tv_left l m i k (by omega)]; rfl
end Go.Proofs.Ytlkgdfeeepiidaa.Lcs
