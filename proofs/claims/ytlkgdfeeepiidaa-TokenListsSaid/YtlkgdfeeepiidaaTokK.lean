/- The token laws' small functions; the document's numbers. -/
import Derived.Test.YtlkgdfeeepiidaaTokJ
import Derived.Test.YtlkgdfeeepiidaaF59
import Derived.Test.YtlkgdfeeepiidaaF26
namespace Go.Proofs.Ytlkgdfeeepiidaa.TokI
open Go.RowKit Go.Proofs.Ytlkgdfeeepiidaa.All Go.Proofs.Ytlkgdfeeepiidaa.XIds Go.Proofs.YtlkgdfeeepiidaaW.PrintWords Go.Proofs.YtlkgdfeeepiidaaW.PrintLast
theorem awakeT : Ev (fun k => emendationlaw03_awake.f k) true := Ev.of emendationlaw03_awake.mono (k := 20) (by decide +kernel)
theorem rdI (l : List Int) (i : Nat) (h : i < l.length) : rd l (i : Int) = l[i] := by unfold rd; simp [h]
theorem sameI (a : List Int) (ha : a.length ≤ 1000000) : Ev (fun k => emendationref03_Same.f k a a) true := by
  have hl0 : ∀ (d i : Nat), i + d = a.length → Ev (fun k => emendationref03_Same.l0 k a a (a.length : Int) (i : Int)) true := by
    intro d
    induction d with
    | zero =>
      intro i hi
      refine ⟨1, fun k hk => ?_⟩
      obtain ⟨q, rfl⟩ : ∃ q, k = q + 1 := ⟨k - 1, (Nat.sub_add_cancel hk).symm⟩
      show emendationref03_Same.l0 (q + 1) _ _ _ _ = _
      have z : ¬ (i : Int) < (a.length : Int) := by omega
      rw [emendationref03_Same.l0, if_neg z]
    | succ d ih =>
      intro i hi
      have z1 : (i : Int) < (a.length : Int) := by omega
      have z2 : (0 : Int) ≤ (i : Int) := by omega
      have w := oneI i (by omega)
      refine Ev.step (fun k => ?_) (ih (i + 1) (by clear w; omega))
      rw [emendationref03_Same.l0, if_pos z1, if_pos z2, if_pos z1, if_pos z1, if_pos rfl, w]
  refine Ev.congr (fun k => ?_) (hl0 a.length 0 (by omega))
  rw [emendationref03_Same.f, if_pos rfl]
  rfl
theorem few_l0 (l : List ByteArray) (hl : l.length ≤ 60) (d : Nat) : ∀ j : Nat, j + d = l.length → ∃ b, Ev (fun k => emendationlaw03_few.l0 k l (l.length : Int) (j : Int)) b := by
  induction d with
  | zero =>
    intro j hj
    refine ⟨true, 1, fun k hk => ?_⟩
    obtain ⟨q, rfl⟩ : ∃ q, k = q + 1 := ⟨k - 1, (Nat.sub_add_cancel hk).symm⟩
    show emendationlaw03_few.l0 (q + 1) _ _ _ = _
    have z : ¬ (j : Int) < (l.length : Int) := by omega
    rw [emendationlaw03_few.l0, if_neg z]
  | succ d ih =>
    intro j hj
    have z1 : (j : Int) < (l.length : Int) := by omega
    have z2 : (0 : Int) ≤ (j : Int) := by omega
    have w := oneI j (by omega)
    obtain ⟨b, hb⟩ := ih (j + 1) (by clear w; omega)
    by_cases hbig : ((rdOf ByteArray.empty l (j : Int)).size : Int) > 1000
    · refine ⟨false, 1, fun k hk => ?_⟩
      obtain ⟨q, rfl⟩ : ∃ q, k = q + 1 := ⟨k - 1, (Nat.sub_add_cancel hk).symm⟩
      show emendationlaw03_few.l0 (q + 1) _ _ _ = _
      rw [emendationlaw03_few.l0, if_pos z1, if_pos z2, if_pos z1, if_pos hbig]
    · refine ⟨b, Ev.step (fun k => ?_) hb⟩
      rw [emendationlaw03_few.l0, if_pos z1, if_pos z2, if_pos z1, if_neg hbig, w]
theorem fewT (l : List ByteArray) : ∃ b, Ev (fun k => emendationlaw03_few.f k l) b ∧ (b = true → l.length ≤ 60) := by
  by_cases hl : (l.length : Int) > 60
  · refine ⟨false, ⟨0, fun k _ => ?_⟩, fun h => by cases h⟩
    show emendationlaw03_few.f k l = _
    rw [emendationlaw03_few.f, if_pos hl]
  · have hl' : l.length ≤ 60 := by omega
    obtain ⟨b, hb⟩ := few_l0 l hl' l.length 0 (Nat.zero_add _)
    refine ⟨b, Ev.congr (fun k => ?_) hb, fun _ => hl'⟩
    rw [emendationlaw03_few.f, if_neg hl]
    rfl
/-- The document's list of texts. -/
noncomputable def gath (l : List ByteArray) (u : List ByteArray) : List ByteArray := l.foldl ins u
theorem gath_up (l : List ByteArray) : ∀ u, Up u → Up (gath l u) := by
  induction l with
  | nil => intro u hu; exact hu
  | cons a l ih => intro u hu; exact ih _ (ins_up hu a)
theorem gath_mem (l : List ByteArray) : ∀ u x, x ∈ gath l u ↔ x ∈ l ∨ x ∈ u := by
  induction l with
  | nil => intro u x; simp [gath]
  | cons a l ih =>
    intro u x
    show x ∈ gath l (ins u a) ↔ _
    rw [ih, ins_mem, List.mem_cons]
    constructor
    · rintro (h | h | h)
      · exact Or.inl (Or.inr h)
      · exact Or.inl (Or.inl h)
      · exact Or.inr h
    · rintro ((h | h) | h)
      · exact Or.inr (Or.inl h)
      · exact Or.inl h
      · exact Or.inr (Or.inr h)
theorem gath_length (l : List ByteArray) : ∀ u, (gath l u).length ≤ u.length + l.length := by
  induction l with
  | nil => intro u; simp [gath]
  | cons a l ih =>
    intro u
    have h1 := ih (ins u a)
    have h2 := ins_length u a
    show (gath l (ins u a)).length ≤ _
    rw [List.length_cons]; omega
theorem gath_take (l u : List ByteArray) (i : Nat) (h : i < l.length) : gath (l.take (i + 1)) u = ins (gath (l.take i) u) l[i] := by
  unfold gath
  rw [List.take_succ_eq_append_getElem h, List.foldl_append]
  rfl
theorem refIds_ev (a b : List ByteArray) (ha : a.length ≤ 1000) (hb : b.length ≤ 1000) : Ev (fun k => emendationref03_Ids.f k a b) (nums (uni [a, b]) a) := by
  have hup : ∀ l m : List ByteArray, Up (gath l (gath m [])) := fun l m => gath_up l _ (gath_up m _ List.Pairwise.nil)
  have hlen : ∀ l m : List ByteArray, (gath l (gath m [])).length ≤ l.length + m.length := fun l m => by
    have h1 := gath_length l (gath m [])
    have h2 := gath_length m []
    simp at h2
    omega
  have heq : gath b (gath a []) = uni [a, b] := by
    refine up_eq (hup b a) (uni_up _) (fun x => ?_)
    rw [uni_mem, gath_mem, gath_mem]
    simp
    exact Or.comm
  -- the numbers
  have hl2 : ∀ (d i : Nat), i + d = a.length → Ev (fun k => emendationref03_Ids.l2 k a (gath b (gath a [])) ((nums (gath b (gath a [])) a).take i) (a.length : Int) (i : Int)) (nums (gath b (gath a [])) a) := by
    intro d
    induction d with
    | zero =>
      intro i hi
      have z : ¬ (i : Int) < (a.length : Int) := by omega
      refine ⟨1, fun k hk => ?_⟩
      obtain ⟨q, rfl⟩ : ∃ q, k = q + 1 := ⟨k - 1, (Nat.sub_add_cancel hk).symm⟩
      show emendationref03_Ids.l2 (q + 1) _ _ _ _ _ = _
      rw [emendationref03_Ids.l2, if_neg z, List.take_of_length_le (by rw [nums_length]; omega)]
    | succ d ih =>
      intro i hi
      have hil : i < a.length := by omega
      have z1 : (i : Int) < (a.length : Int) := by omega
      have z2 : (0 : Int) ≤ (i : Int) := by omega
      have z3 : ((nums (gath b (gath a [])) a).take i).length < 17592186044416 := by rw [List.length_take]; omega
      have hn : i < (nums (gath b (gath a [])) a).length := by rw [nums_length]; exact hil
      have hle := hlen b a
      have w := oneI i (by omega)
      have hat := at_ev (gath b (gath a [])) a[i] (by clear w; omega) (hup b a)
      have nx := ih (i + 1) (by clear w; omega)
      have e : (nums (gath b (gath a [])) a)[i] = (num (gath b (gath a [])) a[i] : Int) := by simp [nums]
      rw [List.take_succ_eq_append_getElem hn, e] at nx
      refine Ev.step (f := fun k => (emendationref03_at.f k (gath b (gath a [])) a[i]).bind fun t110 => (if ((nums (gath b (gath a [])) a).take i).length < 17592186044416 then (emendationref03_Ids.l2 k a (gath b (gath a [])) ((nums (gath b (gath a [])) a).take i ++ [t110]) (a.length : Int) (wrap64 ((i : Int) + 1))) else none)) (fun k => ?_) (Ev.bind hat (Ev.congr (fun k => ?_) nx))
      · rw [emendationref03_Ids.l2, if_pos z1, if_pos z2, if_pos z1, rdB a i hil]
      · rw [if_pos z3, w]
  have hl1 : ∀ (d i : Nat), i + d = b.length → Ev (fun k => emendationref03_Ids.l1 k a b (gath (b.take i) (gath a [])) (b.length : Int) (i : Int)) (nums (gath b (gath a [])) a) := by
    intro d
    induction d with
    | zero =>
      intro i hi
      have z : ¬ (i : Int) < (b.length : Int) := by omega
      have nx := hl2 a.length 0 (Nat.zero_add _)
      rw [List.take_zero] at nx
      refine Ev.step (fun k => ?_) nx
      rw [emendationref03_Ids.l1, if_neg z, List.take_of_length_le (by omega)]
      rfl
    | succ d ih =>
      intro i hi
      have hil : i < b.length := by omega
      have z1 : (i : Int) < (b.length : Int) := by omega
      have z2 : (0 : Int) ≤ (i : Int) := by omega
      have hle := hlen (b.take i) a
      rw [List.length_take] at hle
      have w := oneI i (by omega)
      have hp := put_ev (gath (b.take i) (gath a [])) b[i] (by clear w; omega) (hup _ _)
      have nx := ih (i + 1) (by clear w; omega)
      rw [gath_take b _ i hil] at nx
      refine Ev.step (f := fun k => (emendationref03_put.f k (gath (b.take i) (gath a [])) b[i]).bind fun t106 => (emendationref03_Ids.l1 k a b t106 (b.length : Int) (wrap64 ((i : Int) + 1)))) (fun k => ?_) (Ev.bind hp (Ev.congr (fun k => ?_) nx))
      · rw [emendationref03_Ids.l1, if_pos z1, if_pos z2, if_pos z1, rdB b i hil]
      · rw [w]
  have hl0 : ∀ (d i : Nat), i + d = a.length → Ev (fun k => emendationref03_Ids.l0 k a b (gath (a.take i) []) (a.length : Int) (i : Int)) (nums (gath b (gath a [])) a) := by
    intro d
    induction d with
    | zero =>
      intro i hi
      have z : ¬ (i : Int) < (a.length : Int) := by omega
      have nx := hl1 b.length 0 (Nat.zero_add _)
      rw [List.take_zero] at nx
      refine Ev.step (fun k => ?_) nx
      rw [emendationref03_Ids.l0, if_neg z, List.take_of_length_le (by omega)]
      rfl
    | succ d ih =>
      intro i hi
      have hil : i < a.length := by omega
      have z1 : (i : Int) < (a.length : Int) := by omega
      have z2 : (0 : Int) ≤ (i : Int) := by omega
      have hle := gath_length (a.take i) []
      rw [List.length_take, List.length_nil] at hle
      have w := oneI i (by omega)
      have hp := put_ev (gath (a.take i) []) a[i] (by clear w; omega) (gath_up _ _ List.Pairwise.nil)
      have nx := ih (i + 1) (by clear w; omega)
      rw [gath_take a _ i hil] at nx
      refine Ev.step (f := fun k => (emendationref03_put.f k (gath (a.take i) []) a[i]).bind fun t102 => (emendationref03_Ids.l0 k a b t102 (a.length : Int) (wrap64 ((i : Int) + 1)))) (fun k => ?_) (Ev.bind hp (Ev.congr (fun k => ?_) nx))
      · rw [emendationref03_Ids.l0, if_pos z1, if_pos z2, if_pos z1, rdB a i hil]
      · rw [w]
  have h := hl0 a.length 0 (Nat.zero_add _)
  rw [List.take_zero] at h
  rw [heq] at h
  exact h
end Go.Proofs.Ytlkgdfeeepiidaa.TokI
