/- The plain law of TokenIds: of any lists each text has the number that the document says. No condition. -/
import Derived.Test.YtlkgdfeeepiidaaF22
import Derived.Test.YtlkgdfeeepiidaaTokK
namespace Go.Proofs.Ytlkgdfeeepiidaa.Pure
open Go.RowKit Go.Proofs.Ytlkgdfeeepiidaa.All Go.Proofs.Ytlkgdfeeepiidaa.TokI Go.Proofs.YtlkgdfeeepiidaaW.PrintWords Go.Proofs.YtlkgdfeeepiidaaW.PrintLast
theorem uni_swap (a b : List ByteArray) : uni [b, a] = uni [a, b] := by
  refine up_eq (uni_up _) (uni_up _) (fun x => ?_)
  rw [uni_mem, uni_mem]
  simp
  exact Or.comm
theorem ids_true (a b : List ByteArray) (ha : a.length ≤ 60) (hb : b.length ≤ 60) : Ev (fun k => emendationlaw03_TokenIds.j0 k a b false) true := by
  obtain ⟨K1, h1⟩ := Ids_ev [a, b] (by simp) (by simp; omega)
  obtain ⟨K2, h2⟩ := refIds_ev a b (by omega) (by omega)
  obtain ⟨K3, h3⟩ := refIds_ev b a (by omega) (by omega)
  obtain ⟨K4, h4⟩ := sameI (TokI.nums (uni [a, b]) a) (by rw [TokI.nums_length]; omega)
  obtain ⟨K5, h5⟩ := sameI (TokI.nums (uni [a, b]) b) (by rw [TokI.nums_length]; omega)
  rw [uni_swap] at h3
  refine ⟨K1 + K2 + K3 + K4 + K5 + 1, fun k hk => ?_⟩
  obtain ⟨q, rfl⟩ : ∃ q, k = q + 1 := ⟨k - 1, by omega⟩
  have n1 : token_Ids.f q [a, b] = some [TokI.nums (uni [a, b]) a, TokI.nums (uni [a, b]) b] := h1 q (by omega)
  have n2 : emendationref03_Ids.f q a b = some (TokI.nums (uni [a, b]) a) := h2 q (by omega)
  have n3 : emendationref03_Ids.f q b a = some (TokI.nums (uni [a, b]) b) := h3 q (by omega)
  have n4 : emendationref03_Same.f q (TokI.nums (uni [a, b]) a) (TokI.nums (uni [a, b]) a) = some true := h4 q (by omega)
  have n5 : emendationref03_Same.f q (TokI.nums (uni [a, b]) b) (TokI.nums (uni [a, b]) b) = some true := h5 q (by omega)
  have r0 : rd_L3 [TokI.nums (uni [a, b]) a, TokI.nums (uni [a, b]) b] 0 = TokI.nums (uni [a, b]) a := rfl
  have r1 : rd_L3 [TokI.nums (uni [a, b]) a, TokI.nums (uni [a, b]) b] 1 = TokI.nums (uni [a, b]) b := rfl
  have l2 : (([TokI.nums (uni [a, b]) a, TokI.nums (uni [a, b]) b] : List (List Int)).length : Int) = 2 := rfl
  show emendationlaw03_TokenIds.j0 (q + 1) a b false = some true
  rw [emendationlaw03_TokenIds.j0, if_neg Bool.false_ne_true, n1, Option.bind_some, if_pos l2, l2, if_pos (by omega), n2, Option.bind_some, r0, n4, Option.bind_some, if_pos rfl, if_pos (by omega), n3, Option.bind_some, r1, n5]
  rfl
theorem TokenIds (a : List ByteArray) (_ : ∀ s ∈ a, s.size ≤ maxLen) (_ : a.length ≤ maxLen) (b : List ByteArray) (_ : ∀ s ∈ b, s.size ≤ maxLen) (_ : b.length ≤ maxLen) : ∃ k, emendationlaw03_TokenIds.f k a b = some true := by
  have haw : Ev (fun k => emendationlaw03_TokenIds.j0 k a b true) true := Ev.step (fun _ => rfl) (Ev.bind awakeT (Ev.now true))
  obtain ⟨b1, e1, f1⟩ := fewT a
  obtain ⟨b2, e2, f2⟩ := fewT b
  refine Ev.rounds (Ev.bind awakeT ?_)
  refine Ev.congr (fun k => if_pos rfl) (Ev.bind e1 ?_)
  cases b1 with
  | false => exact Ev.congr (fun k => if_neg Bool.false_ne_true) haw
  | true =>
    refine Ev.congr (fun k => if_pos rfl) (Ev.bind e2 ?_)
    cases b2 with
    | false => exact haw
    | true => exact ids_true a b (f1 rfl) (f2 rfl)
end Go.Proofs.Ytlkgdfeeepiidaa.Pure
