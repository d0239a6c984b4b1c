/- TokenCuts, the plain law: for every text of at most 2000 bytes (a longer one is let by) token.Cut gives the tokens that the reference gives. -/
import Derived.Test.YtlkgdfeeepiidaaF3
import Derived.Test.YtlkgdfeeepiidaaTokF
namespace Go.Proofs.Ytlkgdfeeepiidaa.Pure
open Go.RowKit Go.Proofs.Ytlkgdfeeepiidaa.All Go.Proofs.Ytlkgdfeeepiidaa.Tok Go.Proofs.YtlkgdfeeepiidaaW.PrintWords Go.Proofs.YtlkgdfeeepiidaaW.PrintLast

theorem TokenCuts : emendationlaw03_TokenCuts.Pure := by
  intro s _
  obtain ⟨K1, h1⟩ := awake_ev
  by_cases hs : (s.size : Int) > 2000
  · refine ⟨K1 + 1, ?_⟩
    have e1 : emendationlaw03_awake.f (K1 + 1) = _ := h1 (K1 + 1) (by omega)
    have e2 : emendationlaw03_awake.f K1 = _ := h1 K1 (by omega)
    unfold emendationlaw03_TokenCuts.f
    rw [e1]
    simp only [Option.bind_some, reduceIte, emendationlaw03_TokenCuts.j0, e2, decide_eq_true hs]
  · have hs' : s.size ≤ 1000000 := by omega
    obtain ⟨K2, h2⟩ := Cut_ev s hs'
    obtain ⟨K3, h3⟩ := RefCut_ev s hs'
    have hl : ((cutL (L s)).map B).length ≤ 1000000 := by
      have := cutL_length (L s); rw [L_length] at this; simp; omega
    obtain ⟨K4, h4⟩ := Same_ev _ hl
    refine ⟨K1 + K2 + K3 + K4 + 1, ?_⟩
    have e1 : emendationlaw03_awake.f (K1 + K2 + K3 + K4 + 1) = _ := h1 _ (by omega)
    have e2 : token_Cut.f (K1 + K2 + K3 + K4) s = _ := h2 _ (by omega)
    have e3 : emendationref03_Cut.f (K1 + K2 + K3 + K4) s = _ := h3 _ (by omega)
    have e4 : emendationref02_Same.f (K1 + K2 + K3 + K4) _ _ = _ := h4 _ (by omega)
    unfold emendationlaw03_TokenCuts.f
    rw [e1]
    simp only [Option.bind_some, reduceIte, emendationlaw03_TokenCuts.j0, decide_eq_false hs, Bool.false_eq_true, e2, e3, e4]

end Go.Proofs.Ytlkgdfeeepiidaa.Pure
