/- TokenParts, the plain law: tokens of two texts, one behind the other, are those of both, but where a run goes on. -/
import Derived.Test.YtlkgdfeeepiidaaF14
import Derived.Test.YtlkgdfeeepiidaaTokF
import Derived.Test.YtlkgdfeeepiidaaTokL
namespace Go.Proofs.Ytlkgdfeeepiidaa.Pure
open Go.RowKit Go.Proofs.Ytlkgdfeeepiidaa.All Go.Proofs.Ytlkgdfeeepiidaa.Tok Go.Proofs.YtlkgdfeeepiidaaW.PrintWords Go.Proofs.YtlkgdfeeepiidaaW.PrintLast
set_option linter.unusedSimpArgs false
set_option linter.unusedVariables false
theorem joined_map (ts : List (List UInt8)) : joined (ts.map B) = ts.flatten := by
  unfold joined
  rw [List.map_map]
  congr 1
  have : ((fun x : ByteArray => x.data.toList) ∘ B) = id := by funext t; exact L_B t
  rw [this, List.map_id]
theorem Join_is (l : List UInt8) (h : l.length ≤ 1000000) : token_Join.f ((cutL l).map B) = some (B l) := by
  have hl := cutL_length l
  have e := joined_map (cutL l)
  rw [cutL_flatten] at e
  unfold token_Join.f
  rw [e, if_pos ⟨by rw [List.length_map]; omega, by omega⟩]
  rfl
theorem TokenParts : emendationlaw03_TokenParts.Pure := by
  intro a b hsa hsb
  obtain ⟨K1, h1⟩ := awake_ev
  by_cases hs : wrap64 ((a.size : Int) + (b.size : Int)) > 2000
  · refine ⟨K1 + 1, ?_⟩
    have e1 : emendationlaw03_awake.f (K1 + 1) = _ := h1 (K1 + 1) (by clear hs; omega)
    have e2 : emendationlaw03_awake.f K1 = _ := h1 K1 (by clear hs; omega)
    rw [emendationlaw03_TokenParts.f, e1, Option.bind_some, if_pos rfl, decide_eq_true hs, emendationlaw03_TokenParts.j0, if_pos rfl, e2, Option.bind_some]
  · have hw : wrap64 ((a.size : Int) + (b.size : Int)) = (a.size : Int) + (b.size : Int) := wrap_in (by clear hs; omega) (by clear hs; omega)
    have hab : a.size + b.size ≤ 2000 := by rw [hw] at hs; omega
    have hs' := Aside0.mk hs
    clear hs hw
    have hL : L (a ++ b) = L a ++ L b := L_append a b
    have hLl : (L (a ++ b)).length = a.size + b.size := by rw [hL, List.length_append, L_length, L_length]
    have hla := cutL_length (L a)
    have hlb := cutL_length (L b)
    have hlab := cutL_length (L (a ++ b))
    rw [L_length] at hla hlb
    rw [hLl] at hlab
    obtain ⟨K2, h2⟩ := Cut_ev a (by omega)
    obtain ⟨K3, h3⟩ := Cut_ev b (by omega)
    have hsz : (a ++ b).size = a.size + b.size := by rw [← L_length, hLl]
    obtain ⟨K4, h4⟩ := Cut_ev (a ++ b) (by omega)
    have hj := Join_is (L (a ++ b)) (by omega)
    rw [B_L] at hj
    have e0 : emendationlaw03_awake.f (K1 + K2 + K3 + K4 + 1) = _ := h1 _ (by omega)
    have e2 : token_Cut.f (K1 + K2 + K3 + K4) a = _ := h2 _ (by omega)
    have e3 : token_Cut.f (K1 + K2 + K3 + K4) b = _ := h3 _ (by omega)
    have e4 : token_Cut.f (K1 + K2 + K3 + K4) (a ++ b) = _ := h4 _ (by omega)
    have z0 : a.size + b.size ≤ 9223372036854775807 := by omega
    have w1 : wrap64 (((cutL (L a)).length : Int) + ((cutL (L b)).length : Int)) = (((cutL (L a)).length + (cutL (L b)).length : Nat) : Int) := by rw [wrap_in (by omega) (by omega)]; omega
    refine ⟨K1 + K2 + K3 + K4 + 1, ?_⟩
    rw [emendationlaw03_TokenParts.f, e0, Option.bind_some, if_pos rfl, decide_eq_false hs'.out, emendationlaw03_TokenParts.j0, if_neg Bool.false_ne_true, e2, Option.bind_some, e3, Option.bind_some, if_pos z0, e4, Option.bind_some, List.length_map, List.length_map, List.length_map, w1, hj, Option.bind_some]
    rcases cutL_append (L a) (L b) with h | ⟨xs, x, y, ys, g1, g2, g3⟩
    · rw [← hL] at h
      rw [if_pos (by rw [h, List.length_append])]
      simp
    · rw [← hL] at g3
      have n1 : (cutL (L a)).length = xs.length + 1 := by rw [g1]; simp
      have n2 : (cutL (L b)).length = ys.length + 1 := by rw [g2]; simp
      have n3 : (cutL (L (a ++ b))).length = xs.length + 1 + ys.length := by rw [g3]; simp; clear w1; omega
      have w2 : wrap64 (((xs.length + 1 + (ys.length + 1) : Nat) : Int) - 1) = ((xs.length + 1 + ys.length : Nat) : Int) := by clear w1; rw [wrap_in (by omega) (by omega)]; omega
      have w3 : wrap64 (((xs.length + 1 : Nat) : Int) - 1) = (xs.length : Int) := by clear w1 w2; rw [wrap_in (by omega) (by omega)]; omega
      have c0 : ¬ ((xs.length + 1 + ys.length : Nat) : Int) = ((xs.length + 1 + (ys.length + 1) : Nat) : Int) := by clear w1 w2 w3; omega
      have c1 : ¬ ((xs.length + 1 : Nat) : Int) = 0 := by clear w1 w2 w3; omega
      have c2 : (0 : Int) ≤ (xs.length : Int) := by clear w1 w2 w3; omega
      have c3 : (xs.length : Int) < ((xs.length + 1 + ys.length : Nat) : Int) := by clear w1 w2 w3; omega
      have c4 : (xs.length : Int) < ((xs.length + 1 : Nat) : Int) := by clear w1 w2 w3; omega
      have c5 : (0 : Int) < ((ys.length + 1 : Nat) : Int) := by clear w1 w2 w3; omega
      have r1 : rdOf ByteArray.empty ((cutL (L a)).map B) (xs.length : Int) = B x := by rw [g1]; unfold rdOf; simp
      have r2 : rdOf ByteArray.empty ((cutL (L b)).map B) 0 = B y := by rw [g2]; unfold rdOf; simp
      have r3 : rdOf ByteArray.empty ((cutL (L (a ++ b))).map B) (xs.length : Int) = B (x ++ y) := by rw [g3]; unfold rdOf; simp
      have hx : x.length ≤ a.size := by
        have := congrArg List.length (cutL_flatten (L a)); rw [g1, L_length] at this; simp at this; omega
      have hy : y.length ≤ b.size := by
        have := congrArg List.length (cutL_flatten (L b)); rw [g2, L_length] at this; simp at this; omega
      have c6 : (B x).size + (B y).size ≤ 9223372036854775807 := by rw [B_size, B_size]; clear w1 w2 w3; omega
      rw [n1, n2, n3, w2, w3, r1, r2, r3, if_neg c0, if_pos rfl, if_neg c1, if_pos c2, if_pos c3, if_pos c4, if_pos c5, if_pos c6, if_pos (by rw [B_append])]
      simp
end Go.Proofs.Ytlkgdfeeepiidaa.Pure
