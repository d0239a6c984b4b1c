/- LcsBounds, the plain law: no more in common with a part; without a number of both nothing in common. -/
import Derived.Test.YtlkgdfeeepiidaaF12
import Derived.Test.YtlkgdfeeepiidaaLcsG
namespace Go.Proofs.Ytlkgdfeeepiidaa.Pure
open Go.RowKit Go.Proofs.Ytlkgdfeeepiidaa.All Go.Proofs.Ytlkgdfeeepiidaa.Lcs Go.Proofs.Ytlkgdfeeepiidaa.XLcs Go.Proofs.YtlkgdfeeepiidaaW.PrintWords Go.Proofs.YtlkgdfeeepiidaaW.PrintLast
set_option linter.unusedSimpArgs false
set_option linter.unusedVariables false
/-- The numbers of a that are not in b. -/
def apart (a b : List Int) : List Int := a.filter (fun x => ! b.contains x)
theorem apart_snoc (a b : List Int) (j : Nat) (h : j < a.length) : apart (a.take (j + 1)) b = if b.contains a[j] then apart (a.take j) b else apart (a.take j) b ++ [a[j]] := by
  unfold apart
  rw [List.take_succ_eq_append_getElem h, List.filter_append]
  by_cases hc : b.contains a[j]
  · rw [if_pos hc]; simp at hc; simp [hc]
  · rw [if_neg hc]; simp at hc; simp [hc]
theorem apart_lcs (a b : List Int) : lcs (apart a b) b = 0 := by
  refine lcs_none _ _ fun x hx => ?_
  unfold apart at hx
  simp at hx
  exact hx.2
theorem parts (f : Int → Bool) : ∀ a : List Int, (a.filter f).length + (a.filter (fun x => ! f x)).length = a.length := by
  intro a
  induction a with
  | nil => rfl
  | cons x t ih =>
    rw [List.filter_cons, List.filter_cons]
    cases f x <;> simp <;> omega
theorem apart_len (a b : List Int) : lcs a b + (apart a b).length ≤ a.length := by
  have h := lcs_filter a b (fun x => b.contains x) (fun x => by simp)
  have h2 : (a.filter (fun x => b.contains x)).length + (apart a b).length = a.length := parts _ a
  omega

theorem bounds_l0_end (a b p : List Int) (ha : a.length ≤ 60) (hb : b.length ≤ 60) (hp : p.Sublist a) (k : Nat) :
    emendationlaw04_LcsBounds.l0 (k + 1) a b p (apart a b) (a.length : Int) (a.length : Int) = some true := by
  have hpl := hp.length_le
  have hm := lcs_mono b hp
  have hz := apart_lcs a b
  have hal := apart_len a b
  have hd : dice (apart a b) b = if (apart a b).length + b.length = 0 then 1000 else 0 := by unfold dice; rw [hz]; simp
  have hw : wrap64 (((apart a b).length : Int) + (b.length : Int)) = (((apart a b).length + b.length : Nat) : Int) := by rw [wrap_in (by omega) (by omega)]; omega
  have hw2 : wrap64 ((a.length : Int) - ((apart a b).length : Int)) = ((a.length - (apart a b).length : Nat) : Int) := by rw [wrap_in (by omega) (by omega)]; omega
  have hpz : (prs (apart a b) b 0 0).length = 0 := by rw [prs_length0, hz]
  have q1 : ((lcs a b : Nat) : Int) ≤ ((a.length - (apart a b).length : Nat) : Int) := by omega
  have q2 : ((lcs p b : Nat) : Int) ≤ ((lcs a b : Nat) : Int) := by omega
  have n1 : a.length ≤ 4000000 := by omega
  have n2 : b.length ≤ 4000000 := by omega
  have n3 : p.length ≤ 4000000 := by omega
  have n4 : (apart a b).length ≤ 4000000 := by omega
  have n5 : ¬ (a.length : Int) < (a.length : Int) := by omega
  have hd' : ¬ (((apart a b).length + b.length : Nat) : Int) = 0 → dice (apart a b) b = 0 := by
    intro h0; rw [hd, if_neg (by omega)]
  have L1 := Length_is a b n1 n2
  have L2 := Length_is p b n3 n2
  have L3 := Length_is (apart a b) b n4 n2
  have L4 := Pairs_is (apart a b) b n4 n2
  have L5 := Dice_is (apart a b) b n4 n2
  rw [hz] at L3
  clear hd hm hz hal n1 n2 n3 n4 hpl
  have z1 : ((0 : Nat) : Int) = 0 := rfl
  rw [emendationlaw04_LcsBounds.l0, if_neg n5, L1, Option.bind_some, L2, Option.bind_some, if_pos q2,
    L3, Option.bind_some, if_pos z1, L4, Option.bind_some, List.length_map, hpz, if_pos z1, hw, hw2]
  by_cases h0 : (((apart a b).length + b.length : Nat) : Int) = 0
  · rw [if_pos h0, decide_eq_true q1]
  · rw [if_neg h0, L5, Option.bind_some, hd' h0, if_pos rfl, decide_eq_true q1]

theorem bounds_l0 (a b p : List Int) (ha : a.length ≤ 60) (hb : b.length ≤ 60) (hp : p.Sublist a) (d : Nat) :
    ∀ j : Nat, a.length - j = d → j ≤ a.length → Ev (fun k => emendationlaw04_LcsBounds.l0 k a b p (apart (a.take j) b) (a.length : Int) (j : Int)) true := by
  induction d with
  | zero =>
    intro j hj hj'
    have hja : j = a.length := by omega
    subst hja
    refine ⟨1, fun k hk => ?_⟩
    obtain ⟨m, rfl⟩ : ∃ m, k = m + 1 := ⟨k - 1, by omega⟩
    rw [List.take_of_length_le (Nat.le_refl _)]
    exact bounds_l0_end a b p ha hb hp m
  | succ d ih =>
    intro j hj hj'
    have hlt : j < a.length := by omega
    have hw : wrap64 ((j : Int) + 1) = ((j + 1 : Nat) : Int) := by rw [wrap_in (by omega) (by omega)]; omega
    have c1 : (j : Int) < (a.length : Int) := by omega
    have c2 : (0 : Int) ≤ (j : Int) := by omega
    have nxt := ih (j + 1) (by omega) (by omega)
    have hlen : Aside0 ((apart (a.take j) b).length < 17592186044416) := by
      refine ⟨?_⟩
      have := apart_len (a.take j) b
      simp at this
      omega
    have hs := Aside0.mk (apart_snoc a b j hlt)
    have inner : ∀ (e : Nat) (i : Nat), b.length - i = e → i ≤ b.length →
        Ev (fun k => emendationlaw04_LcsBounds.l1 k a b p (apart (a.take j) b) (j : Int) ((b.take i).contains a[j]) (a.length : Int) (j : Int) (b.length : Int) (i : Int)) true := by
      intro e
      induction e with
      | zero =>
        intro i hi hi'
        have hib : i = b.length := by omega
        subst hib
        have c3 : ¬ (b.length : Int) < (b.length : Int) := by omega
        refine Ev.step (fun k => ?_) nxt
        rw [emendationlaw04_LcsBounds.l1, if_neg c3, List.take_of_length_le (Nat.le_refl _), hs.out, hw]
        by_cases hc : b.contains a[j] = true
        · rw [if_pos hc, if_pos hc]
        · rw [if_neg hc, if_neg hc, if_pos c2, if_pos c1, if_pos hlen.out, rd_nat a j hlt]
      | succ e ihe =>
        intro i hi hi'
        have hilt : i < b.length := by omega
        have hwi : wrap64 ((i : Int) + 1) = ((i + 1 : Nat) : Int) := by rw [wrap_in (by omega) (by omega)]; omega
        have c3 : (i : Int) < (b.length : Int) := by omega
        have c4 : (0 : Int) ≤ (i : Int) := by omega
        have hcs : (b.take (i + 1)).contains a[j] = ((b.take i).contains a[j] || (a[j] == b[i])) := by
          rw [List.take_succ_eq_append_getElem hilt, Bool.eq_iff_iff]; simp [-List.take_append_getElem]
        refine Ev.step (fun k => ?_) (ihe (i + 1) (by omega) (by omega))
        rw [emendationlaw04_LcsBounds.l1, if_pos c3, hcs, hwi]
        by_cases hc : (b.take i).contains a[j] = true
        · rw [if_pos hc, hc, Bool.true_or]
        · rw [if_neg hc, if_pos c2, if_pos c1, if_pos c4, if_pos c3, rd_nat a j hlt, rd_nat b i hilt, Bool.eq_false_iff.2 hc, Bool.false_or]
    refine Ev.step (fun k => ?_) (inner _ 0 rfl (by omega))
    rw [emendationlaw04_LcsBounds.l0, if_pos c1]
    rfl
theorem u64_mod (n : Nat) (x : Int) (hn : n ≤ 60) (hx : (Lit.int .u64 x).wf = true) : IntKind.u64.wrap (wrap64 ((n : Int) + 1)) = ((n + 1 : Nat) : Int) ∧ ∃ y : Nat, y ≤ n ∧ wrap64 (Int.tmod x ((n + 1 : Nat) : Int)) = (y : Int) := by
  have h1 : wrap64 ((n : Int) + 1) = ((n + 1 : Nat) : Int) := by rw [wrap_in (by omega) (by omega)]; omega
  have h2 : IntKind.u64.wrap ((n + 1 : Nat) : Int) = ((n + 1 : Nat) : Int) := by
    simp only [IntKind.wrap, IntKind.bits, IntKind.signed]; simp; omega
  have h3 : 0 ≤ x := by
    simp [Lit.wf, IntKind.min, IntKind.signed] at hx; omega
  rw [h1, h2]
  refine ⟨rfl, (x.toNat % (n + 1)), by have := Nat.mod_lt x.toNat (show 0 < n + 1 by omega); omega, ?_⟩
  have h4 : Int.tmod x ((n + 1 : Nat) : Int) = ((x.toNat % (n + 1) : Nat) : Int) := by
    rw [Int.tmod_eq_emod_of_nonneg h3, Int.natCast_emod, Int.toNat_of_nonneg h3]
  have := Nat.mod_lt x.toNat (show 0 < n + 1 by omega)
  rw [h4]
  exact wrap_in (by omega) (by omega)

theorem LcsBounds : emendationlaw04_LcsBounds.Pure := by
  intro a b x y _ _ _ _ _ _ hx hy
  by_cases ha : (a.length : Int) > 60
  · refine ⟨1, ?_⟩
    rw [emendationlaw04_LcsBounds.f, awake_is, Option.bind_some, if_pos rfl, if_pos ha, emendationlaw04_LcsBounds.j0, if_pos rfl, awake_is, Option.bind_some]
  · by_cases hb : (b.length : Int) > 60
    · refine ⟨1, ?_⟩
      rw [emendationlaw04_LcsBounds.f, awake_is, Option.bind_some, if_pos rfl, if_neg ha, emendationlaw04_LcsBounds.j0, decide_eq_true hb, if_pos rfl, awake_is, Option.bind_some]
    · obtain ⟨e1, u, hu, e2⟩ := u64_mod a.length x (by omega) hx
      obtain ⟨_, v, hv, e3⟩ := u64_mod a.length y (by omega) hy
      have m1 : mn (u : Int) (v : Int) = ((min u v : Nat) : Int) := by unfold mn; split <;> omega
      have m2 : mx (u : Int) (v : Int) = ((max u v : Nat) : Int) := by unfold mx; split <;> omega
      have hp : ((a.take (max u v)).drop (min u v)).Sublist a := (List.drop_sublist _ _).trans (List.take_sublist _ _)
      obtain ⟨k, hk⟩ := (bounds_l0 a b ((a.take (max u v)).drop (min u v)) (by omega) (by omega) hp _ 0 rfl (by omega)).rounds
      refine ⟨k + 1, ?_⟩
      rw [emendationlaw04_LcsBounds.f, awake_is, Option.bind_some, if_pos rfl, if_neg ha, emendationlaw04_LcsBounds.j0, decide_eq_false hb, if_neg (by decide), e1, e2, e3, m1, m2, if_neg (by omega), if_pos (by omega), if_pos (by omega), if_pos (by omega), Int.toNat_natCast, Int.toNat_natCast]
      exact hk
end Go.Proofs.Ytlkgdfeeepiidaa.Pure
