/- The plain law of MarksSize: no line of those that were told is a marker of the size; and a greater least one makes it no less. No condition. -/
import Derived.Test.YtlkgdfeeepiidaaF8
import Derived.Test.YtlkgdfeeepiidaaMkW
namespace Go.Proofs.Ytlkgdfeeepiidaa.Pure
open Go.RowKit Go.Proofs.Ytlkgdfeeepiidaa.All Go.Proofs.Ytlkgdfeeepiidaa.Mk Go.Proofs.YtlkgdfeeepiidaaW.PrintWords Go.Proofs.YtlkgdfeeepiidaaW.PrintLast Go.Proofs.YtlkgdfeeepiidaaW.PrintMore
theorem cho_all (n sd : Int) (l : List ByteArray) (h : ∀ s ∈ l, mk n s = 0) : cho n sd l 0 [] = (l, 0) := by
  have e := cho_plain n sd l [] h 0 []
  rw [List.append_nil, if_pos (Or.inl rfl), List.nil_append] at e
  rw [e, cho, if_pos rfl]
theorem size_true (a : Int) (l : List ByteArray) (hl : l.length ≤ 40) (hs : ∀ s ∈ l, s.size ≤ 2000) : Ev (fun k => emendationlaw06_MarksSize.j0 k a l false) true := by
  have hf : ([l] : List (List ByteArray)).flatten = l := by simp
  have hS := Size_ev a [l] (by simp) (by rw [hf]; omega) (by rw [hf]; intro s h; have := hs s h; omega)
  rw [hf] at hS
  have hN := Size_ev a [] (by simp) (by simp) (by simp)
  have hr := sz_ge a l
  have hle := sz_le a l
  have hnil : sz a ([] : List (List ByteArray)).flatten ≤ sz a l := sz_nil a l
  have hC := Choose_ev (sz a l) 1 (by omega) (by omega) l (by omega) (fun s h => by have := hs s h; omega)
  have hQ := same_ev l (by omega)
  obtain ⟨K1, h1⟩ := hS
  obtain ⟨K2, h2⟩ := hN
  obtain ⟨K3, h3⟩ := hC
  obtain ⟨K4, h4⟩ := hQ
  refine ⟨K1 + K2 + K3 + K4 + 2, fun k hk => ?_⟩
  obtain ⟨q, rfl⟩ : ∃ q, k = q + 2 := ⟨k - 2, by omega⟩
  have n1 : marks_Size.f (q + 1) a [l] = some (sz a l) := h1 (q + 1) (by omega)
  have n2 : marks_Size.f (q + 1) a [] = some (sz a ([] : List (List ByteArray)).flatten) := h2 (q + 1) (by omega)
  have n3 : marks_Choose.f q (sz a l) l 1 = some (cho (sz a l) 1 l 0 []) := h3 q (by omega)
  have n4 : emendationref02_Same.f q l l = some true := h4 q (by omega)
  show emendationlaw06_MarksSize.j0 (q + 1 + 1) a l false = some true
  rw [emendationlaw06_MarksSize.j0, if_neg Bool.false_ne_true, n1, Option.bind_some, if_neg (by omega), if_neg (by omega), if_neg (by omega), n2, Option.bind_some, decide_eq_false (by omega), emendationlaw06_MarksSize.j1, if_neg Bool.false_ne_true]
  by_cases h : sz a l = 1000
  · rw [if_pos h]
  · rw [if_neg h, n3, Option.bind_some, cho_all _ _ l (fun s hs => mk_none a l h s hs), if_pos rfl, n4]
    rfl
theorem MarksSize (a : Int) (_ : (Lit.int .i64 a).wf = true) (l : List ByteArray) (_ : ∀ s ∈ l, s.size ≤ maxLen) (_ : l.length ≤ maxLen) : ∃ k, emendationlaw06_MarksSize.f k a l = some true := by
  have haw : Ev (fun k => emendationlaw06_MarksSize.j0 k a l true) true := Ev.step (fun _ => rfl) (Ev.bind awake_ev (Ev.now true))
  obtain ⟨b1, e1, f1⟩ := few_ev l
  refine Ev.rounds (Ev.bind awake_ev ?_)
  refine Ev.congr (fun k => if_pos rfl) (Ev.bind e1 ?_)
  cases b1 with
  | false => exact haw
  | true => exact size_true a l (f1 rfl).1 (f1 rfl).2
end Go.Proofs.Ytlkgdfeeepiidaa.Pure
