/- The plain law of WeaveOne: with one side the base what comes of it is the other side; with both sides alike it is that. No condition. -/
import Derived.Test.YtlkgdfeeepiidaaF17
import Derived.Test.YtlkgdfeeepiidaaWvM
namespace Go.Proofs.Ytlkgdfeeepiidaa.Wv
open Go.Proofs.Ytlkgdfeeepiidaa.Lcs
theorem kp_self (l : List Int) (i : Nat) (h : i < l.length) : kp (prs l l 0 0) i = some i := by
  have := prs_self l 0 i (by omega)
  rw [Nat.zero_add] at this
  exact kp_prs.2 (List.mem_of_getElem? this)
theorem gp_base (b o : List Int) : gp b o b = some o := by
  unfold gp
  by_cases h : o = b
  · rw [if_pos h]
  · rw [if_neg h, if_neg h, if_pos rfl]
theorem gp_base' (b t : List Int) : gp b b t = some t := by
  unfold gp
  by_cases h : b = t
  · rw [if_pos h, h]
  · rw [if_neg h, if_pos rfl]
theorem part_rest (l : List Int) (y j : Nat) (h : y ≤ j) (hj : j < l.length) : seg l y j ++ ([l[j]] ++ l.drop (j + 1)) = l.drop y := by
  rw [List.singleton_append, ← List.drop_eq_getElem_cons hj, seg_drop l y j h]
theorem mrg_a (b o : List Int) (K : List Tri) : ∀ x y, Chain b o b x y x K → (∀ p ∈ K, p.2.2 = p.1) → mrg b o b x y x K = some (o.drop y) := by
  induction K with
  | nil => intro x y _ _; rw [mrg, gp_base]
  | cons p K ih =>
    obtain ⟨i, j, k⟩ := p
    intro x y hc hk
    cases hc with
    | cons _ _ _ _ _ _ _ h1 h2 h3 hx hy hz e1 e2 hc =>
    have hki : k = i := hk (i, j, k) (List.mem_cons_self ..)
    subst hki
    rw [mrg, gp_base, Option.bind_some, ih _ _ hc (fun p hp => hk p (List.mem_cons_of_mem _ hp)), seg_one b k hx, e1, Option.map_some, part_rest o y j h2 hy]
theorem mrg_b (b t : List Int) (K : List Tri) : ∀ x z, Chain b b t x x z K → (∀ p ∈ K, p.2.1 = p.1) → mrg b b t x x z K = some (t.drop z) := by
  induction K with
  | nil => intro x z _ _; rw [mrg, gp_base']
  | cons p K ih =>
    obtain ⟨i, j, k⟩ := p
    intro x z hc hk
    cases hc with
    | cons _ _ _ _ _ _ _ h1 h2 h3 hx hy hz e1 e2 hc =>
    have hki : j = i := hk (i, j, k) (List.mem_cons_self ..)
    subst hki
    rw [mrg, gp_base', Option.bind_some, ih _ _ hc (fun p hp => hk p (List.mem_cons_of_mem _ hp)), seg_one t k hz, Option.map_some, part_rest t z k h3 hz]
theorem mrg_c (b o : List Int) (K : List Tri) : ∀ x y, Chain b o o x y y K → (∀ p ∈ K, p.2.2 = p.2.1) → mrg b o o x y y K = some (o.drop y) := by
  induction K with
  | nil => intro x y _ _; rw [mrg, gp_same]
  | cons p K ih =>
    obtain ⟨i, j, k⟩ := p
    intro x y hc hk
    cases hc with
    | cons _ _ _ _ _ _ _ h1 h2 h3 hx hy hz e1 e2 hc =>
    have hki : k = j := hk (i, j, k) (List.mem_cons_self ..)
    subst hki
    rw [mrg, gp_same, Option.bind_some, ih _ _ hc (fun p hp => hk p (List.mem_cons_of_mem _ hp)), seg_one o k hy, Option.map_some, part_rest o y k h2 hy]
theorem merge_base (b o : List Int) : merge b o b = some o := by
  unfold merge
  rw [mrg_a b o _ 0 0 (chain_tri b o b) (fun p hp => ?_), List.drop_zero]
  obtain ⟨_, h2, _, h4⟩ := trs_mem _ _ _ _ _ hp
  rw [kp_self b p.1 (by omega)] at h4
  exact (Option.some.inj h4).symm
theorem merge_base' (b t : List Int) : merge b b t = some t := by
  unfold merge
  rw [mrg_b b t _ 0 0 (chain_tri b b t) (fun p hp => ?_), List.drop_zero]
  obtain ⟨_, h2, h3, _⟩ := trs_mem _ _ _ _ _ hp
  rw [kp_self b p.1 (by omega)] at h3
  exact (Option.some.inj h3).symm
theorem merge_same (b o : List Int) : merge b o o = some o := by
  unfold merge
  rw [mrg_c b o _ 0 0 (chain_tri b o o) (fun p hp => ?_), List.drop_zero]
  obtain ⟨_, _, h3, h4⟩ := trs_mem _ _ _ _ _ hp
  rw [h3] at h4
  exact (Option.some.inj h4).symm
end Go.Proofs.Ytlkgdfeeepiidaa.Wv
namespace Go.Proofs.Ytlkgdfeeepiidaa.Pure
open Go.RowKit Go.Proofs.Ytlkgdfeeepiidaa.All Go.Proofs.Ytlkgdfeeepiidaa.Wv Go.Proofs.YtlkgdfeeepiidaaW.PrintWords Go.Proofs.YtlkgdfeeepiidaaW.PrintLast
theorem one_true (a s : List Int) (ha : a.length ≤ 40) (hs : s.length ≤ 40) : Ev (fun k => emendationlaw05_WeaveOne.j0 k a s false) true := by
  have m1 := Merge_ev a s a (by omega) (by omega) (by omega)
  have m2 := Merge_ev a a s (by omega) (by omega) (by omega)
  have m3 := Merge_ev a s s (by omega) (by omega) (by omega)
  have hs3 := Same3_ev s s (by omega)
  rw [beq_self_eq_true] at hs3
  have e1 : mres a s a = (s, true) := by unfold mres; rw [merge_base]
  have e2 : mres a a s = (s, true) := by unfold mres; rw [merge_base']
  have e3 : mres a s s = (s, true) := by unfold mres; rw [merge_same]
  rw [e1] at m1
  rw [e2] at m2
  rw [e3] at m3
  obtain ⟨K1, m1⟩ := m1
  obtain ⟨K2, m2⟩ := m2
  obtain ⟨K3, m3⟩ := m3
  obtain ⟨K4, hs3⟩ := hs3
  refine ⟨K1 + K2 + K3 + K4 + 1, fun k hk => ?_⟩
  obtain ⟨q, rfl⟩ : ∃ q, k = q + 1 := ⟨k - 1, by omega⟩
  have n1 : weave_Merge.f q a s a = some (s, true) := m1 q (by omega)
  have n2 : weave_Merge.f q a a s = some (s, true) := m2 q (by omega)
  have n3 : weave_Merge.f q a s s = some (s, true) := m3 q (by omega)
  have n4 : emendationref03_Same.f q s s = some true := hs3 q (by omega)
  show emendationlaw05_WeaveOne.j0 (q + 1) a s false = some true
  simp only [emendationlaw05_WeaveOne.j0, Bool.false_eq_true, reduceIte, n1, n2, n3, n4, Option.bind_some]
theorem one_awake (a s : List Int) : Ev (fun k => emendationlaw05_WeaveOne.j0 k a s true) true :=
  Ev.step (fun _ => rfl) (Ev.bind awake_ev (Ev.now true))
theorem WeaveOne : emendationlaw05_WeaveOne.Pure := by
  intro a s _ _ _ _ _ _
  refine Ev.rounds (Ev.bind awake_ev ?_)
  rw [few_is]
  by_cases h : a.length ≤ 40 ∧ s.length ≤ 40
  · refine Ev.congr (fun k => ?_) (one_true a s h.1 h.2)
    rw [if_pos rfl, Option.bind_some, decide_eq_true (by simpa using h)]
    rfl
  · refine Ev.congr (fun k => ?_) (one_awake a s)
    rw [if_pos rfl, Option.bind_some, decide_eq_false (fun hh => h ⟨hh.1, hh.2.1⟩)]
    rfl
end Go.Proofs.Ytlkgdfeeepiidaa.Pure
