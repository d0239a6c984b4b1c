/- The plain law of MarksBack: a clash laid with a size of all its lines is chosen back, side by side; with other lines about it, too. No condition. -/
import Derived.Test.YtlkgdfeeepiidaaF25
import Derived.Test.YtlkgdfeeepiidaaMkB
namespace Go.Proofs.Ytlkgdfeeepiidaa.Pure
open Go.RowKit Go.Proofs.Ytlkgdfeeepiidaa.All Go.Proofs.Ytlkgdfeeepiidaa.TokI Go.Proofs.Ytlkgdfeeepiidaa.Mk Go.Proofs.YtlkgdfeeepiidaaW.PrintWords Go.Proofs.YtlkgdfeeepiidaaW.PrintLast Go.Proofs.YtlkgdfeeepiidaaW.PrintMore
namespace Back
theorem rdL (ls : List (List ByteArray)) (i : Nat) (h : i < ls.length) : rd_L6 ls (i : Int) = ls[i] := by unfold rd_L6; simp [h]
section
variable (x y z : ByteArray) (o b t p q : List ByteArray) (n : Int)
theorem cho_back (sd : Int) (h1 : 1 ≤ sd) (h3 : sd ≤ 3) (ho : ∀ s ∈ o, mk n s = 0) (hb : ∀ s ∈ b, mk n s = 0) (ht : ∀ s ∈ t, mk n s = 0) (hp : ∀ s ∈ p, mk n s = 0) (hq : ∀ s ∈ q, mk n s = 0) :
    cho n sd (p ++ region n x y z o b t ++ q) 0 [] = (p ++ (if sd = 1 then o else if sd = 2 then b else t) ++ q, 0) := by
  rw [List.append_assoc, cho_plain n sd p _ hp, if_pos (Or.inl rfl), List.nil_append, region_cho n sd h1 h3 x y z o b t q ho hb ht]
  have e := cho_plain n sd q [] hq 0 (p ++ (if sd = 1 then o else if sd = 2 then b else t))
  rw [List.append_nil, if_pos (Or.inl rfl)] at e
  rw [e, cho, if_pos rfl]
theorem l0_ev (ho : ∀ s ∈ o, mk n s = 0) (hb : ∀ s ∈ b, mk n s = 0) (ht : ∀ s ∈ t, mk n s = 0) (hp : ∀ s ∈ p, mk n s = 0) (hq : ∀ s ∈ q, mk n s = 0)
    (lo : o.length ≤ 40) (lb : b.length ≤ 40) (lt : t.length ≤ 40) (lp : p.length ≤ 40) (lq : q.length ≤ 40) (hsm : ∀ s ∈ p ++ region n x y z o b t ++ q, s.size ≤ 140737488351232) (d : Nat) :
    ∀ j : Nat, j + d = 3 → Ev (fun k => emendationlaw06_MarksBack.l0 k p q n (p ++ region n x y z o b t ++ q) [o, b, t] 3 (j : Int)) true := by
  induction d with
  | zero =>
    intro j hj
    obtain rfl : j = 3 := by omega
    refine ⟨1, fun k hk => ?_⟩
    obtain ⟨q', rfl⟩ : ∃ q, k = q + 1 := ⟨k - 1, (Nat.sub_add_cancel hk).symm⟩
    show emendationlaw06_MarksBack.l0 (q' + 1) _ _ _ _ _ _ _ = _
    rw [emendationlaw06_MarksBack.l0, if_neg (by omega)]
  | succ d ih =>
    intro j hj
    have hj3 : j < 3 := by omega
    have z1 : (j : Int) < 3 := by omega
    have z2 : (0 : Int) ≤ (j : Int) := by omega
    have w := oneI j (by omega)
    have hlen : (p ++ region n x y z o b t ++ q).length ≤ 1000000 := by rw [List.length_append, List.length_append, region_length]; clear w; omega
    have l3 : (([o, b, t] : List (List ByteArray)).length : Int) = 3 := rfl
    have hr := rdL [o, b, t] j hj3
    have hw : ([o, b, t] : List (List ByteArray))[j] = (if ((j + 1 : Nat) : Int) = 1 then o else if ((j + 1 : Nat) : Int) = 2 then b else t) := by
      have : j = 0 ∨ j = 1 ∨ j = 2 := by clear w; omega
      rcases this with rfl | rfl | rfl <;> rfl
    have hwl : ([o, b, t] : List (List ByteArray))[j].length ≤ 40 := by
      have : j = 0 ∨ j = 1 ∨ j = 2 := by clear w; omega
      rcases this with rfl | rfl | rfl <;> assumption
    have hC := Choose_ev n ((j + 1 : Nat) : Int) (by clear w; omega) (by clear w; omega) (p ++ region n x y z o b t ++ q) hlen hsm
    rw [cho_back x y z o b t p q n _ (by clear w; omega) (by clear w; omega) ho hb ht hp hq, ← hw] at hC
    have hS := same_ev (p ++ ([o, b, t] : List (List ByteArray))[j] ++ q) (by rw [List.length_append, List.length_append]; clear w; omega)
    obtain ⟨K1, h1⟩ := hC
    obtain ⟨K2, h2⟩ := hS
    obtain ⟨K3, h3⟩ := ih (j + 1) (by clear w; omega)
    refine ⟨K1 + K2 + K3 + 1, fun k hk => ?_⟩
    obtain ⟨m, rfl⟩ : ∃ m, k = m + 1 := ⟨k - 1, by clear w; omega⟩
    have n1 : marks_Choose.f m n (p ++ region n x y z o b t ++ q) ((j + 1 : Nat) : Int) = some (p ++ ([o, b, t] : List (List ByteArray))[j] ++ q, 0) := h1 m (by clear w; omega)
    have n2 : emendationref02_Same.f m (p ++ ([o, b, t] : List (List ByteArray))[j] ++ q) (p ++ ([o, b, t] : List (List ByteArray))[j] ++ q) = some true := h2 m (by clear w; omega)
    have n3 : emendationlaw06_MarksBack.l0 m p q n (p ++ region n x y z o b t ++ q) [o, b, t] 3 ((j + 1 : Nat) : Int) = some true := h3 m (by clear w; omega)
    show emendationlaw06_MarksBack.l0 (m + 1) p q n _ _ _ _ = some true
    rw [emendationlaw06_MarksBack.l0, if_pos z1, if_pos z2, l3, if_pos z1, w, n1, Option.bind_some, Option.bind_some, List.length_nil, if_pos (by clear w; omega), Option.bind_some, List.nil_append, hr, if_pos (by clear w; omega), Option.bind_some, if_pos (by rw [List.length_append]; clear w; omega), if_pos rfl, n2, Option.bind_some, if_pos rfl, n3]
end
theorem main_ev (a : Int) (x y z : ByteArray) (hx : x.size ≤ 1000) (hy : y.size ≤ 1000) (hz : z.size ≤ 1000) (o b t p q : List ByteArray) (lo : o.length ≤ 40) (lb : b.length ≤ 40) (lt : t.length ≤ 40) (lp : p.length ≤ 40) (lq : q.length ≤ 40)
    (so : ∀ s ∈ o, s.size ≤ 2000) (sb : ∀ s ∈ b, s.size ≤ 2000) (st : ∀ s ∈ t, s.size ≤ 2000) (sp : ∀ s ∈ p, s.size ≤ 2000) (sq : ∀ s ∈ q, s.size ≤ 2000) : Ev (fun k => emendationlaw06_MarksBack.j0 k a o b t p q false x y z) true := by
  have hmem : ∀ s, (s ∈ o ∨ s ∈ b ∨ s ∈ t ∨ s ∈ p ∨ s ∈ q) → s ∈ ([o, b, t, p, q] : List (List ByteArray)).flatten := fun s h => by simp; exact h
  have hS := Size_ev a [o, b, t, p, q] (by simp) (by simp; omega) (by
    intro s h
    simp at h
    rcases h with h | h | h | h | h
    · have := so s h; omega
    · have := sb s h; omega
    · have := st s h; omega
    · have := sp s h; omega
    · have := sq s h; omega)
  have hn7 := (sz_ge a ([o, b, t, p, q] : List (List ByteArray)).flatten).1
  have hn1 := sz_le a ([o, b, t, p, q] : List (List ByteArray)).flatten
  have hmk : ¬ sz a ([o, b, t, p, q] : List (List ByteArray)).flatten = 1000 → ∀ s, (s ∈ o ∨ s ∈ b ∨ s ∈ t ∨ s ∈ p ∨ s ∈ q) → mk (sz a ([o, b, t, p, q] : List (List ByteArray)).flatten) s = 0 := fun h s hs => mk_none a _ h s (hmem s hs)
  generalize sz a ([o, b, t, p, q] : List (List ByteArray)).flatten = n at hS hn7 hn1 hmk
  have htr : Ev (fun k => emendationlaw06_MarksBack.j1 k o b t p q n true x y z) true := by
    refine ⟨1, fun k hk => ?_⟩
    obtain ⟨q', rfl⟩ : ∃ q, k = q + 1 := ⟨k - 1, (Nat.sub_add_cancel hk).symm⟩
    show emendationlaw06_MarksBack.j1 (q' + 1) _ _ _ _ _ _ _ _ _ _ = _
    rw [emendationlaw06_MarksBack.j1, if_pos rfl, if_pos (by omega), decide_eq_true hn1]
  refine Ev.step (f := fun k => (marks_Size.f k a [o, b, t, p, q]).bind _) (fun k => by rw [emendationlaw06_MarksBack.j0, if_neg Bool.false_ne_true]) (Ev.bind hS ?_)
  by_cases hn : n = 1000
  · exact Ev.congr (fun k => if_pos hn) htr
  · have hmk := hmk hn
    obtain ⟨b1, e1⟩ := plain_ev x (by omega)
    obtain ⟨b2, e2⟩ := plain_ev y (by omega)
    obtain ⟨b3, e3⟩ := plain_ev z (by omega)
    refine Ev.congr (fun k => if_neg hn) (Ev.bind e1 ?_)
    cases b1 with
    | false => exact Ev.congr (fun k => if_neg Bool.false_ne_true) htr
    | true =>
      refine Ev.congr (fun k => if_pos rfl) (Ev.bind e2 ?_)
      cases b2 with
      | false => exact Ev.congr (fun k => if_neg Bool.false_ne_true) htr
      | true =>
        refine Ev.congr (fun k => if_pos rfl) (Ev.bind e3 ?_)
        cases b3 with
        | false => exact htr
        | true =>
          have hsm : ∀ s ∈ p ++ region n x y z o b t ++ q, s.size ≤ 140737488351232 := by
            intro s hs
            rcases List.mem_append.1 hs with hs | hs
            · rcases List.mem_append.1 hs with hs | hs
              · have := sp s hs; omega
              · exact region_small n x y z hx hy hz o b t (fun s h => by have := so s h; omega) (fun s h => by have := sb s h; omega) (fun s h => by have := st s h; omega) s hs
            · have := sq s hs; omega
          have h0 := l0_ev x y z o b t p q n (fun s h => hmk s (Or.inl h)) (fun s h => hmk s (Or.inr (Or.inl h))) (fun s h => hmk s (Or.inr (Or.inr (Or.inl h)))) (fun s h => hmk s (Or.inr (Or.inr (Or.inr (Or.inl h))))) (fun s h => hmk s (Or.inr (Or.inr (Or.inr (Or.inr h))))) lo lb lt lp lq hsm 3 0 rfl
          have hR := Region_is n x y z (by omega) (by omega) (by omega) o b t (by omega)
          have hrl := region_length n x y z o b t
          have l3 : (([o, b, t] : List (List ByteArray)).length : Int) = 3 := rfl
          refine Ev.step (fun k => ?_) h0
          show emendationlaw06_MarksBack.j1 (k + 1) o b t p q n false x y z = _
          rw [emendationlaw06_MarksBack.j1, if_neg Bool.false_ne_true, Option.bind_some, List.length_nil, if_pos (by omega), Option.bind_some, List.nil_append, hR, Option.bind_some, if_pos (by omega), Option.bind_some, if_pos (by rw [List.length_append]; omega), Option.bind_some, l3]
          rfl
end Back
theorem MarksBack (a : Int) (_ : (Lit.int .i64 a).wf = true) (x : ByteArray) (hx : x.size ≤ 140737488351232) (y : ByteArray) (hy : y.size ≤ 140737488351232) (z : ByteArray) (hz : z.size ≤ 140737488351232)
    (o : List ByteArray) (_ : ∀ s ∈ o, s.size ≤ maxLen) (_ : o.length ≤ maxLen) (b : List ByteArray) (_ : ∀ s ∈ b, s.size ≤ maxLen) (_ : b.length ≤ maxLen) (t : List ByteArray) (_ : ∀ s ∈ t, s.size ≤ maxLen) (_ : t.length ≤ maxLen)
    (p : List ByteArray) (_ : ∀ s ∈ p, s.size ≤ maxLen) (_ : p.length ≤ maxLen) (q : List ByteArray) (_ : ∀ s ∈ q, s.size ≤ maxLen) (_ : q.length ≤ maxLen) : ∃ k, emendationlaw06_MarksBack.f k a x y z o b t p q = some true := by
  have haw : Ev (fun k => emendationlaw06_MarksBack.j0 k a o b t p q true x y z) true := Ev.step (fun _ => rfl) (Ev.bind awake_ev (Ev.now true))
  obtain ⟨b1, e1, f1⟩ := few_ev b
  obtain ⟨b2, e2, f2⟩ := few_ev o
  obtain ⟨b3, e3, f3⟩ := few_ev t
  obtain ⟨b4, e4, f4⟩ := few_ev p
  obtain ⟨b5, e5, f5⟩ := few_ev q
  refine Ev.rounds (Ev.bind awake_ev ?_)
  refine Ev.congr (fun k => if_pos rfl) (Ev.bind e1 ?_)
  cases b1 with
  | false => exact Ev.congr (fun k => if_neg Bool.false_ne_true) haw
  | true =>
    refine Ev.congr (fun k => if_pos rfl) (Ev.bind e2 ?_)
    cases b2 with
    | false => exact Ev.congr (fun k => if_neg Bool.false_ne_true) haw
    | true =>
      refine Ev.congr (fun k => if_pos rfl) (Ev.bind e3 ?_)
      cases b3 with
      | false => exact Ev.congr (fun k => if_neg Bool.false_ne_true) haw
      | true =>
        refine Ev.congr (fun k => if_pos rfl) (Ev.bind e4 ?_)
        cases b4 with
        | false => exact Ev.congr (fun k => if_neg Bool.false_ne_true) haw
        | true =>
          refine Ev.congr (fun k => if_pos rfl) (Ev.bind e5 ?_)
          cases b5 with
          | false => exact Ev.congr (fun k => if_neg Bool.false_ne_true) haw
          | true =>
            refine Ev.congr (fun k => if_pos rfl) ?_
            refine Ev.congr (fun k => by rw [named_is, Option.bind_some]) (?_ : Ev (fun k => emendationlaw06_MarksBack.j0 k a o b t p q (!decide ((wrap64 ((wrap64 ((x.size : Int) + (y.size : Int))) + (z.size : Int))) < 1000)) x y z) true)
            by_cases hnm : (wrap64 ((wrap64 ((x.size : Int) + (y.size : Int))) + (z.size : Int))) < 1000
            · obtain ⟨sx, sy, sz'⟩ := named_small x y z hx hy hz hnm
              rw [decide_eq_true hnm]
              exact Back.main_ev a x y z sx sy sz' o b t p q (f2 rfl).1 (f1 rfl).1 (f3 rfl).1 (f4 rfl).1 (f5 rfl).1 (f2 rfl).2 (f1 rfl).2 (f3 rfl).2 (f4 rfl).2 (f5 rfl).2
            · rw [decide_eq_false hnm]
              exact haw
end Go.Proofs.Ytlkgdfeeepiidaa.Pure
