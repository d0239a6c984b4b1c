/- The plain law of WeaveTurns: the sides exchanged, chunks are the same, but exchanged; and what comes of them is the same. No condition. -/
import Derived.Test.YtlkgdfeeepiidaaF18
import Derived.Test.YtlkgdfeeepiidaaWvS
import Derived.Test.YtlkgdfeeepiidaaWvLaws
namespace Go.Proofs.Ytlkgdfeeepiidaa.Pure
open Go.RowKit Go.Proofs.Ytlkgdfeeepiidaa.All Go.Proofs.Ytlkgdfeeepiidaa.Wv Go.Proofs.Ytlkgdfeeepiidaa.Lcs Go.Proofs.YtlkgdfeeepiidaaW.PrintWords Go.Proofs.YtlkgdfeeepiidaaW.PrintLast
theorem turns_round (b o t : List Int) (l m : List S75) (x0 x1 y0 y1 z0 z1 c : Int) (i n : Int) (h0 : 0 ≤ i) (hi : i < n) (h1 : i < (l.length : Int)) (h2 : i < (m.length : Int))
    (hl : rd_T75 l i = ⟨⟨x0, x1⟩, ⟨y0, y1⟩, ⟨z0, z1⟩, c⟩) (hm : rd_T75 m i = ⟨⟨x0, x1⟩, ⟨z0, z1⟩, ⟨y0, y1⟩, swc c⟩) (k : Nat) :
    emendationlaw05_WeaveTurns.l0 (k + 1) b o t l m n i = emendationlaw05_WeaveTurns.l0 k b o t l m n (wrap64 (i + 1)) := by
  rw [emendationlaw05_WeaveTurns.l0, if_pos hi, if_pos h0, if_pos h2, hl, hm]
  by_cases c2 : c = 2
  · subst c2
    have e : swc 2 = 3 := rfl
    simp [e, h1]
  · by_cases c3 : c = 3
    · subst c3
      have e : swc 3 = 2 := rfl
      simp [e, h1]
    · have e : swc c = c := by unfold swc; rw [if_neg c2, if_neg c3]
      simp [e, c2, c3, h1]
theorem turns_loop (b o t : List Int) (L : List Ch) (hL : L.length ≤ 1000000) (hE : Ev (fun k => (weave_Merge.f k b o t).bind fun bt110 => ((weave_Merge.f k b t o).bind fun bt114 => (if (bt110.2 == bt114.2) = true then ((emendationref03_Same.f k bt110.1 bt114.1).bind fun t118 => (some t118)) else (some false)))) true) (d : Nat) :
    ∀ i : Nat, i + d = L.length → Ev (fun k => emendationlaw05_WeaveTurns.l0 k b o t (L.map C75) ((L.map swch).map C75) (L.length : Int) (i : Int)) true := by
  induction d with
  | zero =>
    intro i hi
    have z : ¬ (i : Int) < (L.length : Int) := by omega
    refine Ev.step (fun k => ?_) hE
    rw [emendationlaw05_WeaveTurns.l0, if_neg z]
  | succ d ih =>
    intro i hi
    have z0 : i < L.length := by omega
    have z1 : (i : Int) < (L.length : Int) := by omega
    have z2 : (0 : Int) ≤ (i : Int) := by omega
    have z3 : (i : Int) < ((L.map C75).length : Int) := by rw [List.length_map]; exact z1
    have z4 : (i : Int) < (((L.map swch).map C75).length : Int) := by rw [List.length_map, List.length_map]; exact z1
    have z5 : i < (L.map swch).length := by rw [List.length_map]; exact z0
    have w := wone i (by omega)
    have g1 := rd_C75 L i z0
    have g2 := rd_C75 (L.map swch) i z5
    rw [List.getElem_map] at g2
    refine Ev.step (fun k => ?_) (ih (i + 1) (by clear w g1 g2; omega))
    rw [turns_round b o t _ _ _ _ _ _ _ _ _ _ _ z2 z1 z3 z4 g1 g2, w]
theorem WeaveTurns : emendationlaw05_WeaveTurns.Pure := by
  intro b o t _ _ _ _ _ _ _ _ _
  refine Ev.rounds (Ev.bind awake_ev ?_)
  rw [few_is]
  by_cases h : b.length ≤ 40 ∧ o.length ≤ 40 ∧ t.length ≤ 40
  · obtain ⟨h1, h2, h3⟩ := h
    have c1 := Chunks_ev b o t (by omega) (by omega) (by omega)
    have c2 := Chunks_ev b t o (by omega) (by omega) (by omega)
    rw [chunks_sw] at c2
    have hlen := chunks_length b o t
    have m1 := Merge_ev b o t (by omega) (by omega) (by omega)
    have m2 := Merge_ev b t o (by omega) (by omega) (by omega)
    have em : mres b t o = mres b o t := by unfold mres; rw [merge_sw]
    rw [em] at m2
    have hml : (mres b o t).1.length ≤ 1000000 := by
      unfold mres
      cases hm : merge b o t with
      | none => simp
      | some r =>
        have := mrg_length b o t _ 0 0 0 r (chain_tri b o t) hm
        show r.length ≤ 1000000
        omega
    have s1 := Same3_ev (mres b o t).1 (mres b o t).1 hml
    rw [beq_self_eq_true] at s1
    have hE : Ev (fun k => (weave_Merge.f k b o t).bind fun bt110 => ((weave_Merge.f k b t o).bind fun bt114 => (if (bt110.2 == bt114.2) = true then ((emendationref03_Same.f k bt110.1 bt114.1).bind fun t118 => (some t118)) else (some false)))) true := by
      obtain ⟨K1, m1⟩ := m1
      obtain ⟨K2, m2⟩ := m2
      obtain ⟨K3, s1⟩ := s1
      refine ⟨K1 + K2 + K3, fun q hq => ?_⟩
      have n1 : weave_Merge.f q b o t = some (mres b o t) := m1 q (by omega)
      have n2 : weave_Merge.f q b t o = some (mres b o t) := m2 q (by omega)
      have n3 : emendationref03_Same.f q (mres b o t).1 (mres b o t).1 = some true := s1 q (by omega)
      simp only [n1, n2, n3, Option.bind_some, beq_self_eq_true, reduceIte]
    have hl := turns_loop b o t (chunks b o t) (by omega) hE _ 0 (Nat.zero_add _)
    refine Ev.congr (f := fun k => emendationlaw05_WeaveTurns.j0 k b o t false) (fun k => ?_) (Ev.step (f := fun k => (weave_Chunks.f k b o t).bind fun t104 => ((weave_Chunks.f k b t o).bind fun t107 => (if (t104.length : Int) = (t107.length : Int) then (emendationlaw05_WeaveTurns.l0 k b o t t104 t107 (t104.length : Int) 0) else (some false)))) (fun k => rfl) ?_)
    · rw [if_pos rfl, Option.bind_some, decide_eq_true ⟨h1, h2, h3⟩]
      rfl
    · obtain ⟨K1, c1⟩ := c1
      obtain ⟨K2, c2⟩ := c2
      obtain ⟨K3, hl⟩ := hl
      refine ⟨K1 + K2 + K3, fun q hq => ?_⟩
      have n1 : weave_Chunks.f q b o t = some ((chunks b o t).map C75) := c1 q (by omega)
      have n2 : weave_Chunks.f q b t o = some (((chunks b o t).map swch).map C75) := c2 q (by omega)
      have n3 : emendationlaw05_WeaveTurns.l0 q b o t ((chunks b o t).map C75) (((chunks b o t).map swch).map C75) ((chunks b o t).length : Int) 0 = some true := hl q (by omega)
      simp only [n1, n2, Option.bind_some, List.length_map, reduceIte]
      exact n3
  · refine Ev.congr (f := fun k => emendationlaw05_WeaveTurns.j0 k b o t true) (fun k => ?_) (Ev.step (fun _ => rfl) (Ev.bind awake_ev (Ev.now true)))
    rw [if_pos rfl, Option.bind_some, decide_eq_false h]
    rfl
end Go.Proofs.Ytlkgdfeeepiidaa.Pure
