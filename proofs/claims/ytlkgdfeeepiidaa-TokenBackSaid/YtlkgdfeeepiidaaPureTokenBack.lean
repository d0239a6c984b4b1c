/- TokenBack, the plain law: what is cut is joined as it was; no token is empty; cut again each is itself. -/
import Derived.Test.YtlkgdfeeepiidaaF13
import Derived.Test.YtlkgdfeeepiidaaTokF
import Derived.Test.YtlkgdfeeepiidaaTokL
namespace Go.Proofs.Ytlkgdfeeepiidaa.Tok
open Go.RowKit Go.Proofs.Ytlkgdfeeepiidaa.All Go.Proofs.YtlkgdfeeepiidaaW.PrintWords Go.Proofs.YtlkgdfeeepiidaaW.PrintLast
set_option linter.unusedSimpArgs false
set_option linter.unusedVariables false
theorem wsuc (n : Nat) (h : n < 1000000000000) : wrap64 ((n : Int) + 1) = ((n + 1 : Nat) : Int) := by rw [wrap_in (by omega) (by omega)]; omega
theorem rdS (l : List ByteArray) (i : Nat) (h : i < l.length) : rdOf ByteArray.empty l (i : Int) = l[i] := by unfold rdOf; simp [h]
/-- Are texts of a size that is looked at? -/
def isFew (l : List ByteArray) : Prop := l.length ≤ 60 ∧ ∀ s ∈ l, s.size ≤ 1000
theorem few_l0 (l : List ByteArray) (hl : l.length ≤ 60) (d : Nat) : ∀ j : Nat, l.length - j = d → j ≤ l.length →
    ∃ b, Ev (fun k => emendationlaw03_few.l0 k l (l.length : Int) (j : Int)) b ∧ (b = true → ∀ i (h : i < l.length), j ≤ i → l[i].size ≤ 1000) := by
  induction d with
  | zero =>
    intro j hj hj'
    have z : ¬ (j : Int) < (l.length : Int) := by omega
    refine ⟨true, Ev.step (fun k => ?_) (Ev.now true), fun _ i hi hji => absurd hi (by omega)⟩
    rw [emendationlaw03_few.l0, if_neg z]
  | succ d ih =>
    intro j hj hj'
    have hlt : j < l.length := by omega
    have z1 : (j : Int) < (l.length : Int) := by omega
    have z2 : (0 : Int) ≤ (j : Int) := by omega
    have hr := rdS l j hlt
    have hw := Aside0.mk (wsuc j (by omega))
    by_cases hb : ((l[j].size : Nat) : Int) > 1000
    · refine ⟨false, Ev.step (fun k => ?_) (Ev.now false), fun h => by cases h⟩
      rw [emendationlaw03_few.l0, if_pos z1, if_pos z2, if_pos z1, hr, if_pos hb]
    · obtain ⟨b, h1, h2⟩ := ih (j + 1) (by omega) (by omega)
      refine ⟨b, Ev.step (fun k => ?_) h1, fun hb' i hi hji => ?_⟩
      · rw [emendationlaw03_few.l0, if_pos z1, if_pos z2, if_pos z1, hr, if_neg hb, hw.out]
      · by_cases hij : i = j
        · subst hij; omega
        · exact h2 hb' i hi (by omega)
theorem few_ev (l : List ByteArray) : ∃ b, Ev (fun k => emendationlaw03_few.f k l) b ∧ (b = true → isFew l) := by
  by_cases hl : (l.length : Int) > 60
  · refine ⟨false, Ev.congr (fun k => ?_) (Ev.now false), fun h => by cases h⟩
    rw [emendationlaw03_few.f, if_pos hl]
  · obtain ⟨b, h1, h2⟩ := few_l0 l (by omega) _ 0 rfl (Nat.zero_le _)
    refine ⟨b, Ev.congr (fun k => ?_) h1, fun hb => ⟨by omega, fun s hs => ?_⟩⟩
    · rw [emendationlaw03_few.f, if_neg hl]; rfl
    · obtain ⟨i, hi, rfl⟩ := List.getElem_of_mem hs
      exact h2 hb i hi (Nat.zero_le _)
end Go.Proofs.Ytlkgdfeeepiidaa.Tok
namespace Go.Proofs.Ytlkgdfeeepiidaa.Pure
open Go.RowKit Go.Proofs.Ytlkgdfeeepiidaa.All Go.Proofs.Ytlkgdfeeepiidaa.Tok Go.Proofs.YtlkgdfeeepiidaaW.PrintWords Go.Proofs.YtlkgdfeeepiidaaW.PrintLast
set_option linter.unusedSimpArgs false
set_option linter.unusedVariables false
theorem joined_map' (ts : List (List UInt8)) : joined (ts.map B) = ts.flatten := by
  unfold joined
  rw [List.map_map]
  congr 1
  have : ((fun x : ByteArray => x.data.toList) ∘ B) = id := by funext t; exact L_B t
  rw [this, List.map_id]
theorem Join_is' (l : List UInt8) (h : l.length ≤ 1000000) : token_Join.f ((cutL l).map B) = some (B l) := by
  have hl := cutL_length l
  have e := joined_map' (cutL l)
  rw [cutL_flatten] at e
  unfold token_Join.f
  rw [e, if_pos ⟨by rw [List.length_map]; omega, by omega⟩]
  rfl
theorem joined_snoc (l : List ByteArray) (s : ByteArray) : joined (l ++ [s]) = joined l ++ L s := by unfold joined L; simp
theorem joined_few (l : List ByteArray) (h : isFew l) (j : Nat) : (joined (l.take j)).length ≤ 1000 * j := by
  induction j with
  | zero => simp [joined]
  | succ j ih =>
    by_cases hj : j < l.length
    · rw [List.take_succ_eq_append_getElem hj, joined_snoc, List.length_append, L_length]
      have := h.2 l[j] (List.getElem_mem hj)
      omega
    · rw [List.take_of_length_le (by omega)] at ih ⊢
      omega
theorem back_l1 (s : ByteArray) (hs : s.size ≤ 2000) (l : List ByteArray) (hl : isFew l) (d : Nat) : ∀ j : Nat, l.length - j = d → j ≤ l.length →
    Ev (fun k => emendationlaw03_TokenBack.l1 k s l ((cutL (L s)).map B) (B (joined (l.take j))) (l.length : Int) (j : Int)) true := by
  have h60 := hl.1
  induction d with
  | zero =>
    intro j hj hj'
    have hje : j = l.length := by omega
    subst hje
    have z : ¬ (l.length : Int) < (l.length : Int) := by omega
    have hj1 := Join_is' (L s) (by rw [L_length]; omega)
    rw [B_L] at hj1
    have hjl := joined_few l hl l.length
    rw [List.take_of_length_le (Nat.le_refl _)] at hjl
    have hj2 : token_Join.f l = some (B (joined l)) := by
      unfold token_Join.f
      rw [if_pos ⟨by omega, by omega⟩]; rfl
    refine Ev.step (fun k => ?_) (Ev.now true)
    rw [emendationlaw03_TokenBack.l1, if_neg z, hj1, Option.bind_some, if_pos rfl, hj2, Option.bind_some, List.take_of_length_le (Nat.le_refl _)]
    simp
  | succ d ih =>
    intro j hj hj'
    have hlt : j < l.length := by omega
    have z1 : (j : Int) < (l.length : Int) := by omega
    have z2 : (0 : Int) ≤ (j : Int) := by omega
    have hr := rdS l j hlt
    have hw := Aside0.mk (wsuc j (by omega))
    have hjl := joined_few l hl j
    have hsz := hl.2 l[j] (List.getElem_mem hlt)
    have z3 : (B (joined (l.take j))).size + l[j].size ≤ 9223372036854775807 := by rw [B_size]; omega
    have hs : B (joined (l.take j)) ++ l[j] = B (joined (l.take (j + 1))) := by
      rw [List.take_succ_eq_append_getElem hlt, joined_snoc, B_append, B_L]
    refine Ev.step (fun k => ?_) (ih (j + 1) (by omega) (by omega))
    rw [emendationlaw03_TokenBack.l1, if_pos z1, if_pos z2, if_pos z1, hr, if_pos z3, hw.out, hs]
theorem back_l0 (s : ByteArray) (hs : s.size ≤ 2000) (l : List ByteArray) (hl : isFew l) (d : Nat) : ∀ j : Nat, (cutL (L s)).length - j = d → j ≤ (cutL (L s)).length →
    Ev (fun k => emendationlaw03_TokenBack.l0 k s l ((cutL (L s)).map B) ((cutL (L s)).length : Int) (j : Int)) true := by
  have hcl := cutL_length (L s)
  rw [L_length] at hcl
  induction d with
  | zero =>
    intro j hj hj'
    have z : ¬ (j : Int) < ((cutL (L s)).length : Int) := by omega
    refine Ev.step (fun k => ?_) (back_l1 s hs l hl _ 0 rfl (Nat.zero_le _))
    rw [emendationlaw03_TokenBack.l0, if_neg z]; rfl
  | succ d ih =>
    intro j hj hj'
    have hlt : j < (cutL (L s)).length := by omega
    have z1 : (j : Int) < ((cutL (L s)).length : Int) := by omega
    have z2 : (0 : Int) ≤ (j : Int) := by omega
    have hmem := List.getElem_mem hlt
    have hagain := cutL_again (L s) _ hmem
    have hsz : (cutL (L s))[j].length ≤ 2000 := by
      have h1 := cutL_flatten (L s)
      have h2 := (List.sublist_flatten_of_mem hmem).length_le
      rw [h1, L_length] at h2
      omega
    have hr : rdOf ByteArray.empty ((cutL (L s)).map B) (j : Int) = B (cutL (L s))[j] := by
      rw [rdS _ j (by rw [List.length_map]; exact hlt), List.getElem_map]
    obtain ⟨K, hK⟩ := Cut_ev (B (cutL (L s))[j]) (by rw [B_size]; omega)
    rw [L_B, hagain] at hK
    have hw := Aside0.mk (wsuc j (by omega))
    obtain ⟨K2, hK2⟩ := ih (j + 1) (by omega) (by omega)
    refine ⟨K + K2 + 1, fun k hk => ?_⟩
    obtain ⟨m, rfl⟩ : ∃ m, k = m + 1 := ⟨k - 1, by omega⟩
    have e1 : token_Cut.f m (B (cutL (L s))[j]) = some [B (cutL (L s))[j]] := hK m (by omega)
    have e2 : emendationlaw03_TokenBack.l0 m s l ((cutL (L s)).map B) ((cutL (L s)).length : Int) ((j + 1 : Nat) : Int) = some true := hK2 m (by omega)
    show emendationlaw03_TokenBack.l0 (m + 1) s l ((cutL (L s)).map B) ((cutL (L s)).length : Int) (j : Int) = some true
    have c1 : (([B (cutL (L s))[j]] : List ByteArray).length : Int) = 1 := rfl
    have c2 : (0 : Int) < 1 := by decide
    have r0 : rdOf ByteArray.empty [B (cutL (L s))[j]] 0 = B (cutL (L s))[j] := rfl
    rw [emendationlaw03_TokenBack.l0, if_pos z1, if_pos z2, List.length_map, if_pos z1, hr, e1, Option.bind_some, c1, if_pos rfl, if_pos c2, r0, if_pos rfl, hw.out, e2]
theorem TokenBack (s : ByteArray) (hs : s.size ≤ 140737488351232) (l : List ByteArray) (_ : ∀ x ∈ l, x.size ≤ maxLen) (_ : l.length ≤ maxLen) : ∃ k, emendationlaw03_TokenBack.f k s l = some true := by
  obtain ⟨K1, h1⟩ := awake_ev
  by_cases hb : (s.size : Int) > 2000
  · have e0 : emendationlaw03_awake.f (K1 + 1) = _ := h1 _ (by omega)
    have e1 : emendationlaw03_awake.f K1 = _ := h1 _ (by omega)
    refine ⟨K1 + 1, ?_⟩
    rw [emendationlaw03_TokenBack.f, e0, Option.bind_some, if_pos rfl, if_pos hb, emendationlaw03_TokenBack.j0, if_pos rfl, e1, Option.bind_some]
  · obtain ⟨b, ⟨K2, h2⟩, hf⟩ := few_ev l
    cases b with
    | false =>
      have e0 : emendationlaw03_awake.f (K1 + K2 + 1) = _ := h1 _ (by omega)
      have e1 : emendationlaw03_awake.f (K1 + K2) = _ := h1 _ (by omega)
      have e2 : emendationlaw03_few.f (K1 + K2 + 1) l = _ := h2 _ (by omega)
      refine ⟨K1 + K2 + 1, ?_⟩
      rw [emendationlaw03_TokenBack.f, e0, Option.bind_some, if_pos rfl, if_neg hb, e2, Option.bind_some, emendationlaw03_TokenBack.j0, if_pos (by decide), e1, Option.bind_some]
    | true =>
      obtain ⟨K3, h3⟩ := Cut_ev s (by omega)
      obtain ⟨K4, h4⟩ := back_l0 s (by omega) l (hf rfl) _ 0 rfl (Nat.zero_le _)
      have e0 : emendationlaw03_awake.f (K1 + K2 + K3 + K4 + 1) = _ := h1 _ (by omega)
      have e2 : emendationlaw03_few.f (K1 + K2 + K3 + K4 + 1) l = _ := h2 _ (by omega)
      have e3 : token_Cut.f (K1 + K2 + K3 + K4) s = _ := h3 _ (by omega)
      have e4 : emendationlaw03_TokenBack.l0 (K1 + K2 + K3 + K4) s l ((cutL (L s)).map B) ((cutL (L s)).length : Int) 0 = some true := h4 _ (by omega)
      refine ⟨K1 + K2 + K3 + K4 + 1, ?_⟩
      rw [emendationlaw03_TokenBack.f, e0, Option.bind_some, if_pos rfl, if_neg hb, e2, Option.bind_some, emendationlaw03_TokenBack.j0, if_neg (by decide), e3, Option.bind_some, List.length_map, e4]
end Go.Proofs.Ytlkgdfeeepiidaa.Pure
