/- The plain law of WeaveTells: of any three lists the chunks, and what comes of them, are as the document says. No condition. -/
import Derived.Test.YtlkgdfeeepiidaaF15
import Derived.Test.YtlkgdfeeepiidaaXRw
namespace Go.Proofs.Ytlkgdfeeepiidaa.Pure
open Go.RowKit Go.Proofs.Ytlkgdfeeepiidaa.All Go.Proofs.Ytlkgdfeeepiidaa.Wv Go.Proofs.Ytlkgdfeeepiidaa.Lcs Go.Proofs.YtlkgdfeeepiidaaW.PrintWords Go.Proofs.YtlkgdfeeepiidaaW.PrintLast
theorem clean_is (b o t : List Int) (hb : b.length ≤ 40) : weave_Clean.f ((chunks b o t).map C75) = some (mres b o t).2 := by
  have hlen := chunks_length b o t
  unfold weave_Clean.f
  rw [if_pos (by rw [List.length_map]; omega), ← any5, List.any_map]
  rfl
theorem tells_true (b o t : List Int) (hb : b.length ≤ 40) (ho : o.length ≤ 40) (ht : t.length ≤ 40) : Ev (fun k => emendationlaw05_WeaveTells.j0 k b o t false) true := by
  have hlen := chunks_length b o t
  have hml : (mres b o t).1.length ≤ 1000000 := by
    unfold mres
    cases hm : merge b o t with
    | none => simp
    | some r =>
      have := mrg_length b o t _ 0 0 0 r (chain_tri b o t) hm
      show r.length ≤ 1000000
      omega
  obtain ⟨K1, c1⟩ := Chunks_ev b o t (by omega) (by omega) (by omega)
  obtain ⟨K2, m1⟩ := Merge_ev b o t (by omega) (by omega) (by omega)
  obtain ⟨K3, l1⟩ := list_ev (chunks b o t) (by omega)
  obtain ⟨K4, s1⟩ := Same5_ev ((chunks b o t).map C113) (by rw [List.length_map]; omega)
  obtain ⟨K5, d1⟩ := refClean_ev (chunks b o t) (by omega)
  obtain ⟨K6, s3⟩ := Same3_ev (mres b o t).1 (mres b o t).1 hml
  rw [beq_self_eq_true] at s3
  refine ⟨K1 + K2 + K3 + K4 + K5 + K6 + 1, fun k hk => ?_⟩
  obtain ⟨q, rfl⟩ : ∃ q, k = q + 1 := ⟨k - 1, by omega⟩
  have n1 : weave_Chunks.f q b o t = some ((chunks b o t).map C75) := c1 q (by omega)
  have n2 : weave_Merge.f q b o t = some (mres b o t) := m1 q (by omega)
  have n3 : emendationlaw05_list.f q ((chunks b o t).map C75) = some ((chunks b o t).map C113) := l1 q (by omega)
  have n4 : emendationref05_Same.f q ((chunks b o t).map C113) ((chunks b o t).map C113) = some true := s1 q (by omega)
  have n5 : emendationref05_Clean.f q ((chunks b o t).map C113) = some (mres b o t).2 := (d1 q (by omega)).trans (congrArg some (any5 b o t))
  have n6 : emendationref03_Same.f q (mres b o t).1 (mres b o t).1 = some true := s3 q (by omega)
  have n7 := clean_is b o t hb
  have n8 : emendationref05_Chunks.f b o t = some ((chunks b o t).map C113) := if_pos ⟨by omega, by omega, by omega⟩
  have n9 : emendationref05_Merge.f b o t = some (mres b o t) := if_pos ⟨by omega, by omega, by omega⟩
  show emendationlaw05_WeaveTells.j0 (q + 1) b o t false = some true
  simp only [emendationlaw05_WeaveTells.j0, Bool.false_eq_true, reduceIte, n1, n2, n3, n4, n5, n6, n7, n8, n9, Option.bind_some, beq_self_eq_true]
theorem WeaveTells : emendationlaw05_WeaveTells.Pure := by
  intro b o t _ _ _ _ _ _ _ _ _
  refine Ev.rounds (Ev.bind awake_ev ?_)
  rw [few_is]
  by_cases h : b.length ≤ 40 ∧ o.length ≤ 40 ∧ t.length ≤ 40
  · refine Ev.congr (fun k => ?_) (tells_true b o t h.1 h.2.1 h.2.2)
    rw [if_pos rfl, Option.bind_some, decide_eq_true h]
    rfl
  · refine Ev.congr (f := fun k => emendationlaw05_WeaveTells.j0 k b o t true) (fun k => ?_) (Ev.step (fun _ => rfl) (Ev.bind awake_ev (Ev.now true)))
    rw [if_pos rfl, Option.bind_some, decide_eq_false h]
    rfl
end Go.Proofs.Ytlkgdfeeepiidaa.Pure
