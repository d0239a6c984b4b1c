/- The plain law of TokenSame: two texts of any lists have the same number just if they are the same; and numbers rise as the texts do. No condition. -/
import Derived.Test.YtlkgdfeeepiidaaF23
import Derived.Test.YtlkgdfeeepiidaaTokK
namespace Go.Proofs.Ytlkgdfeeepiidaa.Pure
open Go.RowKit Go.Proofs.Ytlkgdfeeepiidaa.All Go.Proofs.Ytlkgdfeeepiidaa.TokI Go.Proofs.YtlkgdfeeepiidaaW.PrintWords Go.Proofs.YtlkgdfeeepiidaaW.PrintLast
theorem key_iff (s t : ByteArray) : (s.toList == t.toList) = decide (s = t) := by
  by_cases h : s = t
  · subst h; simp
  · have : ¬ s.toList = t.toList := fun hh => h (key_inj hh)
    simp [h, this]
theorem same_test (u : List ByteArray) (hu : Up u) (s t : ByteArray) (hs : s ∈ u) (ht : t ∈ u) : ((s.toList == t.toList) != ((num u s : Int) == (num u t : Int))) = false := by
  have h := (at_iff hu (isAt_num hu s) (isAt_num hu t) hs ht).1
  rw [key_iff]
  by_cases he : s = t
  · subst he; simp
  · have hn : ¬ num u s = num u t := fun hh => he (h.2 hh)
    have hn' : ((num u s : Int) == (num u t : Int)) = false := by rw [beq_eq_false_iff_ne]; omega
    rw [decide_eq_false he, hn']
    rfl
theorem less_test (u : List ByteArray) (hu : Up u) (s t : ByteArray) (hs : s ∈ u) (ht : t ∈ u) : ((Op.bytesLess s.toList t.toList) != (decide ((num u s : Int) < (num u t : Int)))) = false := by
  have h := (at_iff hu (isAt_num hu s) (isAt_num hu t) hs ht).2
  by_cases he : lt s t
  · have h1 : Op.bytesLess s.toList t.toList = true := he
    have h2 := h.1 he
    rw [h1, decide_eq_true (by omega)]
    rfl
  · have h1 : Op.bytesLess s.toList t.toList = false := by unfold lt at he; simpa using he
    have h2 : ¬ num u s < num u t := fun hh => he (h.2 hh)
    rw [h1, decide_eq_false (by omega)]
    rfl
theorem rdN (u l : List ByteArray) (i : Nat) (h : i < l.length) : rd (TokI.nums u l) (i : Int) = (num u l[i] : Int) := by
  rw [rdI _ _ (by rw [TokI.nums_length]; exact h)]
  simp [TokI.nums]
section
variable (a b c : List ByteArray) (u : List ByteArray)
theorem same_l2 (hu : Up u) (hb : b.length ≤ 60) (ha60 : a.length ≤ 60) (ha : ∀ s ∈ a, s ∈ u) (hbm : ∀ s ∈ b, s ∈ u) (i : Nat) (hi : i < a.length) (nx : Ev (fun k => emendationlaw03_TokenSame.l0 k a b c [TokI.nums u a, TokI.nums u b, TokI.nums u c] (a.length : Int) ((i + 1 : Nat) : Int)) true) (d : Nat) :
    ∀ j : Nat, j + d = b.length → Ev (fun k => emendationlaw03_TokenSame.l2 k a b c [TokI.nums u a, TokI.nums u b, TokI.nums u c] (i : Int) (a.length : Int) (i : Int) (b.length : Int) (j : Int)) true := by
  induction d with
  | zero =>
    intro j hj
    have z : ¬ (j : Int) < (b.length : Int) := by omega
    refine Ev.step (fun k => ?_) nx
    rw [emendationlaw03_TokenSame.l2, if_neg z, oneI i (by omega)]
  | succ d ih =>
    intro j hj
    have hjl : j < b.length := by omega
    have z1 : (j : Int) < (b.length : Int) := by omega
    have z2 : (0 : Int) ≤ (j : Int) := by omega
    have z3 : (0 : Int) ≤ (i : Int) := by omega
    have z4 : (i : Int) < (a.length : Int) := by omega
    have l3 : (([TokI.nums u a, TokI.nums u b, TokI.nums u c] : List (List Int)).length : Int) = 3 := rfl
    have r0 : rd_L3 [TokI.nums u a, TokI.nums u b, TokI.nums u c] 0 = TokI.nums u a := rfl
    have r1 : rd_L3 [TokI.nums u a, TokI.nums u b, TokI.nums u c] 1 = TokI.nums u b := rfl
    have w := oneI j (by omega)
    have ht := same_test u hu a[i] b[j] (ha _ (List.getElem_mem hi)) (hbm _ (List.getElem_mem hjl))
    refine Ev.step (fun k => ?_) (ih (j + 1) (by clear w ht; omega))
    rw [emendationlaw03_TokenSame.l2, if_pos z1, if_pos z3, if_pos z4, if_pos z2, if_pos z1, l3, if_pos (by omega), r0, TokI.nums_length, if_pos z4, if_pos (by omega), r1, TokI.nums_length, if_pos z1, rdB a i hi, rdB b j hjl, rdN u a i hi, rdN u b j hjl, ht, if_neg Bool.false_ne_true, w]
theorem same_l1 (hu : Up u) (hc : c.length ≤ 60) (ha : ∀ s ∈ a, s ∈ u) (hcm : ∀ s ∈ c, s ∈ u) (i : Nat) (hi : i < a.length) (nx : Ev (fun k => emendationlaw03_TokenSame.l2 k a b c [TokI.nums u a, TokI.nums u b, TokI.nums u c] (i : Int) (a.length : Int) (i : Int) (b.length : Int) 0) true) (d : Nat) :
    ∀ j : Nat, j + d = c.length → Ev (fun k => emendationlaw03_TokenSame.l1 k a b c [TokI.nums u a, TokI.nums u b, TokI.nums u c] (i : Int) (a.length : Int) (i : Int) (c.length : Int) (j : Int)) true := by
  induction d with
  | zero =>
    intro j hj
    have z : ¬ (j : Int) < (c.length : Int) := by omega
    refine Ev.step (fun k => ?_) nx
    rw [emendationlaw03_TokenSame.l1, if_neg z]
  | succ d ih =>
    intro j hj
    have hjl : j < c.length := by omega
    have z1 : (j : Int) < (c.length : Int) := by omega
    have z2 : (0 : Int) ≤ (j : Int) := by omega
    have z3 : (0 : Int) ≤ (i : Int) := by omega
    have z4 : (i : Int) < (a.length : Int) := by omega
    have l3 : (([TokI.nums u a, TokI.nums u b, TokI.nums u c] : List (List Int)).length : Int) = 3 := rfl
    have r0 : rd_L3 [TokI.nums u a, TokI.nums u b, TokI.nums u c] 0 = TokI.nums u a := rfl
    have r2 : rd_L3 [TokI.nums u a, TokI.nums u b, TokI.nums u c] 2 = TokI.nums u c := rfl
    have w := oneI j (by omega)
    have ht := same_test u hu a[i] c[j] (ha _ (List.getElem_mem hi)) (hcm _ (List.getElem_mem hjl))
    have hl := less_test u hu a[i] c[j] (ha _ (List.getElem_mem hi)) (hcm _ (List.getElem_mem hjl))
    refine Ev.step (fun k => ?_) (ih (j + 1) (by clear w ht hl; omega))
    rw [emendationlaw03_TokenSame.l1, if_pos z1, if_pos z3, if_pos z4, if_pos z2, if_pos z1, l3, if_pos (by omega), r0, TokI.nums_length, if_pos z4, if_pos (by omega), r2, TokI.nums_length, if_pos z1, rdB a i hi, rdB c j hjl, rdN u a i hi, rdN u c j hjl, ht, if_neg Bool.false_ne_true, hl, if_neg Bool.false_ne_true, w]
theorem same_l0 (hu : Up u) (ha60 : a.length ≤ 60) (hb : b.length ≤ 60) (hc : c.length ≤ 60) (ha : ∀ s ∈ a, s ∈ u) (hbm : ∀ s ∈ b, s ∈ u) (hcm : ∀ s ∈ c, s ∈ u) (d : Nat) :
    ∀ i : Nat, i + d = a.length → Ev (fun k => emendationlaw03_TokenSame.l0 k a b c [TokI.nums u a, TokI.nums u b, TokI.nums u c] (a.length : Int) (i : Int)) true := by
  induction d with
  | zero =>
    intro i hi
    have z : ¬ (i : Int) < (a.length : Int) := by omega
    refine ⟨1, fun k hk => ?_⟩
    obtain ⟨q, rfl⟩ : ∃ q, k = q + 1 := ⟨k - 1, (Nat.sub_add_cancel hk).symm⟩
    show emendationlaw03_TokenSame.l0 (q + 1) _ _ _ _ _ _ = _
    rw [emendationlaw03_TokenSame.l0, if_neg z]
  | succ d ih =>
    intro i hi
    have hil : i < a.length := by omega
    have z1 : (i : Int) < (a.length : Int) := by omega
    have h2 := same_l2 a b c u hu hb ha60 ha hbm i hil (ih (i + 1) (by omega)) b.length 0 (Nat.zero_add _)
    have h1 := same_l1 a b c u hu hc ha hcm i hil h2 c.length 0 (Nat.zero_add _)
    refine Ev.step (fun k => ?_) h1
    rw [emendationlaw03_TokenSame.l0, if_pos z1]
    rfl
end
theorem same_true (a b c : List ByteArray) (ha : a.length ≤ 60) (hb : b.length ≤ 60) (hc : c.length ≤ 60) : Ev (fun k => emendationlaw03_TokenSame.j0 k a b c false) true := by
  have hmem : ∀ s, (s ∈ a ∨ s ∈ b ∨ s ∈ c) → s ∈ uni [a, b, c] := fun s h => by rw [uni_mem]; simp; exact h
  have hl0 := same_l0 a b c (uni [a, b, c]) (uni_up _) ha hb hc (fun s h => hmem s (Or.inl h)) (fun s h => hmem s (Or.inr (Or.inl h))) (fun s h => hmem s (Or.inr (Or.inr h))) a.length 0 (Nat.zero_add _)
  obtain ⟨K1, h1⟩ := Ids_ev [a, b, c] (by simp) (by simp; omega)
  obtain ⟨K2, h2⟩ := Ids_ev [] (by simp) (by simp)
  obtain ⟨K3, h3⟩ := hl0
  refine ⟨K1 + K2 + K3 + 2, fun k hk => ?_⟩
  obtain ⟨q, rfl⟩ : ∃ q, k = q + 2 := ⟨k - 2, by omega⟩
  have n1 : token_Ids.f (q + 1) [a, b, c] = some [TokI.nums (uni [a, b, c]) a, TokI.nums (uni [a, b, c]) b, TokI.nums (uni [a, b, c]) c] := h1 (q + 1) (by omega)
  have n2 : token_Ids.f (q + 1) [] = some [] := h2 (q + 1) (by omega)
  have n3 : emendationlaw03_TokenSame.l0 q a b c [TokI.nums (uni [a, b, c]) a, TokI.nums (uni [a, b, c]) b, TokI.nums (uni [a, b, c]) c] (a.length : Int) 0 = some true := h3 q (by omega)
  have l3 : (([TokI.nums (uni [a, b, c]) a, TokI.nums (uni [a, b, c]) b, TokI.nums (uni [a, b, c]) c] : List (List Int)).length : Int) = 3 := rfl
  have r0 : rd_L3 [TokI.nums (uni [a, b, c]) a, TokI.nums (uni [a, b, c]) b, TokI.nums (uni [a, b, c]) c] 0 = TokI.nums (uni [a, b, c]) a := rfl
  have r1 : rd_L3 [TokI.nums (uni [a, b, c]) a, TokI.nums (uni [a, b, c]) b, TokI.nums (uni [a, b, c]) c] 1 = TokI.nums (uni [a, b, c]) b := rfl
  have r2 : rd_L3 [TokI.nums (uni [a, b, c]) a, TokI.nums (uni [a, b, c]) b, TokI.nums (uni [a, b, c]) c] 2 = TokI.nums (uni [a, b, c]) c := rfl
  show emendationlaw03_TokenSame.j0 (q + 1 + 1) a b c false = some true
  rw [emendationlaw03_TokenSame.j0, if_neg Bool.false_ne_true, n1, Option.bind_some, if_pos l3, l3, if_pos (by omega), r0, TokI.nums_length, if_pos rfl, if_pos (by omega), r1, TokI.nums_length, if_pos rfl, if_pos (by omega), r2, TokI.nums_length, if_pos rfl, n2, Option.bind_some]
  show emendationlaw03_TokenSame.j1 (q + 1) a b c _ false = some true
  rw [emendationlaw03_TokenSame.j1, if_neg Bool.false_ne_true, n3]
theorem TokenSame (a : List ByteArray) (_ : ∀ s ∈ a, s.size ≤ maxLen) (_ : a.length ≤ maxLen) (b : List ByteArray) (_ : ∀ s ∈ b, s.size ≤ maxLen) (_ : b.length ≤ maxLen) (c : List ByteArray) (_ : ∀ s ∈ c, s.size ≤ maxLen) (_ : c.length ≤ maxLen) : ∃ k, emendationlaw03_TokenSame.f k a b c = some true := by
  have haw : Ev (fun k => emendationlaw03_TokenSame.j0 k a b c true) true := Ev.step (fun _ => rfl) (Ev.bind awakeT (Ev.now true))
  obtain ⟨b1, e1, f1⟩ := fewT a
  obtain ⟨b2, e2, f2⟩ := fewT b
  obtain ⟨b3, e3, f3⟩ := fewT c
  refine Ev.rounds (Ev.bind awakeT ?_)
  refine Ev.congr (fun k => if_pos rfl) (Ev.bind e1 ?_)
  cases b1 with
  | false => exact Ev.congr (fun k => if_neg Bool.false_ne_true) haw
  | true =>
    refine Ev.congr (fun k => if_pos rfl) (Ev.bind e2 ?_)
    cases b2 with
    | false => exact Ev.congr (fun k => if_neg Bool.false_ne_true) haw
    | true =>
      refine Ev.congr (fun k => if_pos rfl) (Ev.bind e3 ?_)
      cases b3 with
      | false => exact haw
      | true => exact same_true a b c (f1 rfl) (f2 rfl) (f3 rfl)
end Go.Proofs.Ytlkgdfeeepiidaa.Pure
