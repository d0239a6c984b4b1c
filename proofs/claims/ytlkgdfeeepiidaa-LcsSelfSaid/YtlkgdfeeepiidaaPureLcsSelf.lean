/- LcsSelf, the plain law: a list has all in common with itself; with more put in somewhere all is still there. -/
import Derived.Test.YtlkgdfeeepiidaaF11
import Derived.Test.YtlkgdfeeepiidaaLcsG
namespace Go.Proofs.Ytlkgdfeeepiidaa.Pure
open Go.RowKit Go.Proofs.Ytlkgdfeeepiidaa.All Go.Proofs.Ytlkgdfeeepiidaa.Lcs Go.Proofs.Ytlkgdfeeepiidaa.XLcs Go.Proofs.YtlkgdfeeepiidaaW.PrintWords Go.Proofs.YtlkgdfeeepiidaaW.PrintLast
set_option linter.unusedSimpArgs false
set_option linter.unusedVariables false
theorem u64_mod' (n : Nat) (x : Int) (hn : n ≤ 60) (hx : (Lit.int .u64 x).wf = true) : IntKind.u64.wrap (wrap64 ((n : Int) + 1)) = ((n + 1 : Nat) : Int) ∧ ∃ y : Nat, y ≤ n ∧ wrap64 (Int.tmod x ((n + 1 : Nat) : Int)) = (y : Int) := by
  have h1 : wrap64 ((n : Int) + 1) = ((n + 1 : Nat) : Int) := by rw [wrap_in (by omega) (by omega)]; omega
  have h2 : IntKind.u64.wrap ((n + 1 : Nat) : Int) = ((n + 1 : Nat) : Int) := by
    simp only [IntKind.wrap, IntKind.bits, IntKind.signed]; simp; omega
  have h3 : 0 ≤ x := by
    simp [Lit.wf, IntKind.min, IntKind.signed] at hx; omega
  rw [h1, h2]
  refine ⟨rfl, (x.toNat % (n + 1)), by have := Nat.mod_lt x.toNat (show 0 < n + 1 by omega); omega, ?_⟩
  have h4 : Int.tmod x ((n + 1 : Nat) : Int) = ((x.toNat % (n + 1) : Nat) : Int) := by
    rw [Int.tmod_eq_emod_of_nonneg h3, Int.natCast_emod, Int.toNat_of_nonneg h3]
  have := Nat.mod_lt x.toNat (show 0 < n + 1 by omega)
  rw [h4]
  exact wrap_in (by omega) (by omega)
theorem dice_self (a : List Int) : dice a a = 1000 := by
  unfold dice
  by_cases h : a.length + a.length = 0
  · rw [if_pos h]
  · rw [if_neg h, lcs_self]; exact Int.ediv_eq_of_eq_mul_left (by omega) (by omega)
theorem dice_sub (a b : List Int) (h : a.Sublist b) : (dice a b == 1000) = ((b.length : Int) - (a.length : Int) == 0) := by
  have hl := h.length_le
  rw [Bool.eq_iff_iff, beq_iff_eq, beq_iff_eq]
  unfold dice
  by_cases h0 : a.length + b.length = 0
  · rw [if_pos h0]; omega
  · rw [if_neg h0, lcs_sub h]
    constructor
    · intro he
      have h1 := Int.ediv_mul_le (2000 * (a.length : Int)) (show ((a.length + b.length : Nat) : Int) ≠ 0 by omega)
      rw [he] at h1
      omega
    · intro he
      have : b.length = a.length := by omega
      rw [this]; exact Int.ediv_eq_of_eq_mul_left (by omega) (by omega)
/-- Where the list is cut, and more put in. -/
theorem put_in (a m : List Int) (u : Nat) : a.Sublist (a.take u ++ m ++ a.drop u) := by
  have h : (a.take u ++ a.drop u).Sublist (a.take u ++ m ++ a.drop u) := (List.sublist_append_left _ _).append (List.Sublist.refl _)
  rwa [List.take_append_drop] at h
theorem self_end (a m : List Int) (x : Int) (ps : List S55) (ha : a.length ≤ 60) (hm : m.length ≤ 60) (hx : (Lit.int .u64 x).wf = true) (n : Int) (k : Nat) :
    emendationlaw04_LcsSelf.l0 (k + 1) a m x ps n n = some true := by
  obtain ⟨e1, u, hu, e2⟩ := u64_mod' a.length x ha hx
  have hs := put_in a m u
  have hl : (a.take u ++ m ++ a.drop u).length = a.length + m.length := by simp; omega
  have hd := dice_sub _ _ hs
  have q1 : lcs a (a.take u ++ m ++ a.drop u) = a.length := lcs_sub hs
  have q2 : lcs (a.take u ++ m ++ a.drop u) a = a.length := by rw [lcs_comm]; exact q1
  have n1 : a.length ≤ 4000000 := by omega
  have n2 : (a.take u ++ m ++ a.drop u).length ≤ 4000000 := by omega
  have L1 := Length_is a _ n1 n2
  have L2 := Length_is _ a n2 n1
  have L3 := Dice_is a _ n1 n2
  rw [q1] at L1
  rw [q2] at L2
  have z1 : ¬ n < n := by omega
  have z2 : ¬ ((a.length + 1 : Nat) : Int) = 0 := by omega
  have z3 : (0 : Int) ≤ (u : Int) := by omega
  have z4 : (u : Int) ≤ (a.length : Int) := by omega
  have z5 : ([] : List Int).length + (a.take u).length < 17592186044416 := by simp; omega
  have z6 : ([] ++ a.take u).length + m.length < 17592186044416 := by simp; omega
  have z7 : ([] ++ a.take u ++ m).length + (a.drop u).length < 17592186044416 := by simp; omega
  have hd2 : (dice a (a.take u ++ m ++ a.drop u) == 1000) = ((m.length : Int) == 0) := by
    rw [hd, hl, Bool.eq_iff_iff, beq_iff_eq, beq_iff_eq]; omega
  rw [emendationlaw04_LcsSelf.l0, if_neg z1, e1, if_neg z2, Option.bind_some, e2, if_pos z3, if_pos z4, Int.toNat_natCast, if_pos z5, Option.bind_some, if_pos z6, Option.bind_some, if_pos z7, Option.bind_some, List.nil_append,
    L1, Option.bind_some, if_pos rfl, L2, Option.bind_some, if_pos rfl, L3, Option.bind_some, hd2]
  simp
theorem self_l0 (a m : List Int) (x : Int) (ha : a.length ≤ 60) (hm : m.length ≤ 60) (hx : (Lit.int .u64 x).wf = true) (d : Nat) :
    ∀ j : Nat, a.length - j = d → j ≤ a.length → Ev (fun k => emendationlaw04_LcsSelf.l0 k a m x ((prs a a 0 0).map P55) (a.length : Int) (j : Int)) true := by
  induction d with
  | zero =>
    intro j hj hj'
    have hja : j = a.length := by omega
    subst hja
    refine ⟨1, fun k hk => ?_⟩
    obtain ⟨m, rfl⟩ : ∃ m, k = m + 1 := ⟨k - 1, by omega⟩
    exact self_end a _ x _ ha hm hx _ m
  | succ d ih =>
    intro j hj hj'
    have hlt : j < a.length := by omega
    have hw : wrap64 ((j : Int) + 1) = ((j + 1 : Nat) : Int) := by rw [wrap_in (by omega) (by omega)]; omega
    have c1 : (j : Int) < (a.length : Int) := by omega
    have c2 : (0 : Int) ≤ (j : Int) := by omega
    have hl : (prs a a 0 0).length = a.length := by rw [prs_length0, lcs_self]
    have c3 : (j : Int) < (((prs a a 0 0).map P55).length : Int) := by rw [List.length_map, hl]; exact c1
    have hg := prs_self a 0 j (by omega)
    have hr : rd_T55 ((prs a a 0 0).map P55) (j : Int) = P55 (j, j) := by
      rw [rd_P _ j (by omega)]
      rw [List.getElem?_eq_getElem (by omega)] at hg
      rw [Option.some.inj hg, Nat.zero_add]
    refine Ev.step (fun k => ?_) (ih (j + 1) (by omega) (by omega))
    rw [emendationlaw04_LcsSelf.l0, if_pos c1, if_pos c2, if_pos c3, hr, P55_f0, P55_f1, if_pos rfl, if_pos rfl, hw]
theorem LcsSelf : emendationlaw04_LcsSelf.Pure := by
  intro a m x _ _ _ _ _ _ hx
  by_cases ha : (a.length : Int) > 60
  · refine ⟨1, ?_⟩
    rw [emendationlaw04_LcsSelf.f, awake_is, Option.bind_some, if_pos rfl, if_pos ha, emendationlaw04_LcsSelf.j0, if_pos rfl, awake_is, Option.bind_some]
  · by_cases hb : (m.length : Int) > 60
    · refine ⟨1, ?_⟩
      rw [emendationlaw04_LcsSelf.f, awake_is, Option.bind_some, if_pos rfl, if_neg ha, emendationlaw04_LcsSelf.j0, decide_eq_true hb, if_pos rfl, awake_is, Option.bind_some]
    · obtain ⟨k, hk⟩ := (self_l0 a m x (by omega) (by omega) hx _ 0 rfl (by omega)).rounds
      have hl : (prs a a 0 0).length = a.length := by rw [prs_length0, lcs_self]
      have L1 := Pairs_is a a (by omega) (by omega)
      have L2 := Dice_is a a (by omega) (by omega)
      rw [dice_self] at L2
      refine ⟨k + 1 + 1, ?_⟩
      rw [emendationlaw04_LcsSelf.f, awake_is, Option.bind_some, if_pos rfl, if_neg ha, emendationlaw04_LcsSelf.j0, decide_eq_false hb, if_neg (by decide), L1, Option.bind_some, List.length_map, hl, if_pos rfl, L2, Option.bind_some, emendationlaw04_LcsSelf.j1, if_neg (by decide), List.length_map, hl]
      exact hk
end Go.Proofs.Ytlkgdfeeepiidaa.Pure
