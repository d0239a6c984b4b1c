/- The plain law of WeaveEnds: with the same new number ahead of all three, or behind, what comes is as before, with it there. No condition. -/
import Derived.Test.YtlkgdfeeepiidaaF21
import Derived.Test.YtlkgdfeeepiidaaWvM
import Derived.Test.YtlkgdfeeepiidaaWvLaws
namespace Go.Proofs.Ytlkgdfeeepiidaa.Pure
open Go.RowKit Go.Proofs.Ytlkgdfeeepiidaa.All Go.Proofs.Ytlkgdfeeepiidaa.Wv Go.Proofs.Ytlkgdfeeepiidaa.Lcs Go.Proofs.YtlkgdfeeepiidaaW.PrintWords Go.Proofs.YtlkgdfeeepiidaaW.PrintLast
theorem ends_wf {a : Int} (h : (Lit.int .i64 a).wf = true) : -9223372036854775808 ≤ a ∧ a ≤ 9223372036854775807 := by
  simpa [Lit.wf, IntKind.min, IntKind.max, IntKind.signed, IntKind.bits] using h
theorem ends_l1 (b o t l : List Int) (L : List (List Int)) (n : Int) (idx : Nat) (hidx : idx ≤ 10) (hw : ∀ s ∈ l, (Lit.int .i64 s).wf = true) (hl : l.length ≤ 40) (X : Int)
    (hnext : ∀ X', X ≤ X' → X' ≤ 1152921504606846977 → (∀ a ∈ l, a < X') → Ev (fun k => emendationlaw05_WeaveEnds.l0 k b o t X' L n ((idx + 1 : Nat) : Int)) true) (d : Nat) :
    ∀ (i : Nat) (X' : Int), i + d = l.length → X ≤ X' → X' ≤ 1152921504606846977 → (∀ a ∈ l.take i, a < X') → Ev (fun k => emendationlaw05_WeaveEnds.l1 k b o t X' l L n (idx : Int) (l.length : Int) (i : Int)) true := by
  induction d with
  | zero =>
    intro i X' hi h1 h2 h3
    have z : ¬ (i : Int) < (l.length : Int) := by omega
    rw [List.take_of_length_le (by omega)] at h3
    have nx := hnext X' h1 h2 h3
    refine Ev.step (fun k => ?_) nx
    rw [emendationlaw05_WeaveEnds.l1, if_neg z, wone idx (by omega)]
  | succ d ih =>
    intro i X' hi h1 h2 h3
    have z0 : i < l.length := by omega
    have z1 : (i : Int) < (l.length : Int) := by omega
    have z2 : (0 : Int) ≤ (i : Int) := by omega
    have g := rd_nat l i z0
    have w5 := Aside0.mk (wone i (by clear g; omega))
    have hwf := ends_wf (hw _ (List.getElem_mem z0))
    have ht : ∀ a ∈ l.take (i + 1), a ∈ l.take i ∨ a = l[i] := by
      intro a ha
      rw [List.take_succ_eq_append_getElem z0] at ha
      rcases List.mem_append.1 ha with ha | ha
      · exact Or.inl ha
      · exact Or.inr (List.mem_singleton.1 ha)
    by_cases hbig : l[i] > 1152921504606846976
    · refine ⟨1, fun k hk => ?_⟩
      obtain ⟨q, rfl⟩ : ∃ q, k = q + 1 := ⟨k - 1, (Nat.sub_add_cancel hk).symm⟩
      show emendationlaw05_WeaveEnds.l1 (q + 1) _ _ _ _ _ _ _ _ _ _ = _
      rw [emendationlaw05_WeaveEnds.l1, if_pos z1, if_pos z2, if_pos z1, g, if_pos hbig]
    · have w : wrap64 (l[i] + 1) = l[i] + 1 := wrap_in (by clear g; omega) (by clear g; omega)
      have hm1 : X' ≤ mx X' (l[i] + 1) := by clear w g; unfold mx; split <;> omega
      have hm2 : mx X' (l[i] + 1) ≤ 1152921504606846977 := by clear w g; unfold mx; split <;> omega
      have hm3 : l[i] < mx X' (l[i] + 1) := by clear w g; unfold mx; split <;> omega
      refine Ev.step (fun k => ?_) (ih (i + 1) (mx X' (l[i] + 1)) (by clear w g; omega) (by clear w g; omega) hm2 (fun a ha => ?_))
      · rw [emendationlaw05_WeaveEnds.l1, if_pos z1, if_pos z2, if_pos z1, g, if_neg hbig, w, w5.out]
      · rcases ht a ha with ha | rfl
        · have := h3 a ha; clear w g; omega
        · exact hm3
theorem ends_last (b o t : List Int) (x : Int) (hb : b.length ≤ 40) (ho : o.length ≤ 40) (ht : t.length ≤ 40) (h1 : ∀ a ∈ b, a < x) (h2 : ∀ a ∈ o, a < x) (h3 : ∀ a ∈ t, a < x) (L : List (List Int)) :
    Ev (fun k => emendationlaw05_WeaveEnds.l0 k b o t x L 3 3) true := by
  have n1 : x ∉ b := fun h => Int.lt_irrefl x (h1 x h)
  have n2 : x ∉ o := fun h => Int.lt_irrefl x (h2 x h)
  have n3 : x ∉ t := fun h => Int.lt_irrefl x (h3 x h)
  have mf := merge_front x b o t
  have mb := merge_back x b o t n1 n2 n3
  obtain ⟨K1, m1⟩ := Merge_ev b o t (by omega) (by omega) (by omega)
  obtain ⟨K2, m2⟩ := Merge_ev (x :: b) (x :: o) (x :: t) (by simp; omega) (by simp; omega) (by simp; omega)
  obtain ⟨K3, m3⟩ := Merge_ev (b ++ [x]) (o ++ [x]) (t ++ [x]) (by simp; omega) (by simp; omega) (by simp; omega)
  have y1 : 1 + b.length < 17592186044416 := by omega
  have y2 : 1 + o.length < 17592186044416 := by omega
  have y3 : 1 + t.length < 17592186044416 := by omega
  have y4 : 0 + b.length < 17592186044416 := by omega
  have y5 : 0 + o.length < 17592186044416 := by omega
  have y6 : 0 + t.length < 17592186044416 := by omega
  have y7 : b.length < 17592186044416 := by omega
  have y8 : o.length < 17592186044416 := by omega
  have y9 : t.length < 17592186044416 := by omega
  cases hm : merge b o t with
  | none =>
    rw [hm] at mf mb
    refine ⟨K1 + K2 + K3 + 2, fun k hk => ?_⟩
    obtain ⟨q, rfl⟩ : ∃ q, k = q + 2 := ⟨k - 2, by omega⟩
    have e1 : weave_Merge.f (q + 1) b o t = some ([], false) := by have := m1 (q + 1) (by omega); unfold mres at this; rw [hm] at this; exact this
    have e2 : weave_Merge.f (q + 1) (x :: b) (x :: o) (x :: t) = some ([], false) := by have := m2 (q + 1) (by omega); unfold mres at this; rw [mf] at this; exact this
    have e3 : weave_Merge.f (q + 1) (b ++ [x]) (o ++ [x]) (t ++ [x]) = some ([], false) := by have := m3 (q + 1) (by omega); unfold mres at this; rw [mb] at this; exact this
    show emendationlaw05_WeaveEnds.l0 (q + 1 + 1) b o t x L 3 3 = some true
    rw [emendationlaw05_WeaveEnds.l0, if_neg (by omega)]
    simp only [e1, e2, e3, Option.bind_some, List.length_singleton, List.length_nil, List.nil_append, List.singleton_append, if_pos y1, if_pos y2, if_pos y3, if_pos y4, if_pos y5, if_pos y6, if_pos y7, if_pos y8, if_pos y9, bne_self_eq_false, Bool.false_eq_true, reduceIte, emendationlaw05_WeaveEnds.j3]
  | some r =>
    rw [hm] at mf mb
    have hr := mrg_length b o t _ 0 0 0 r (chain_tri b o t) hm
    obtain ⟨K4, s1⟩ := Same3_ev (x :: r) (x :: r) (by simp; omega)
    obtain ⟨K5, s2⟩ := Same3_ev (r ++ [x]) (r ++ [x]) (by simp; omega)
    have u1 : 1 + r.length < 17592186044416 := by omega
    have u2 : 0 + r.length < 17592186044416 := by omega
    have u3 : r.length < 17592186044416 := by omega
    refine ⟨K1 + K2 + K3 + K4 + K5 + 2, fun k hk => ?_⟩
    obtain ⟨q, rfl⟩ : ∃ q, k = q + 2 := ⟨k - 2, by omega⟩
    have e1 : weave_Merge.f (q + 1) b o t = some (r, true) := by have := m1 (q + 1) (by omega); unfold mres at this; rw [hm] at this; exact this
    have e2 : weave_Merge.f (q + 1) (x :: b) (x :: o) (x :: t) = some (x :: r, true) := by have := m2 (q + 1) (by omega); unfold mres at this; rw [mf] at this; exact this
    have e3 : weave_Merge.f (q + 1) (b ++ [x]) (o ++ [x]) (t ++ [x]) = some (r ++ [x], true) := by have := m3 (q + 1) (by omega); unfold mres at this; rw [mb] at this; exact this
    have e4 : emendationref03_Same.f q (x :: r) (x :: r) = some true := by have := s1 q (by omega); rw [beq_self_eq_true] at this; exact this
    have e5 : emendationref03_Same.f q (r ++ [x]) (r ++ [x]) = some true := by have := s2 q (by omega); rw [beq_self_eq_true] at this; exact this
    show emendationlaw05_WeaveEnds.l0 (q + 1 + 1) b o t x L 3 3 = some true
    rw [emendationlaw05_WeaveEnds.l0, if_neg (by omega)]
    simp only [e1, e2, e3, e4, e5, Option.bind_some, List.length_singleton, List.length_nil, List.nil_append, List.singleton_append, if_pos y1, if_pos y2, if_pos y3, if_pos y4, if_pos y5, if_pos y6, if_pos y7, if_pos y8, if_pos y9, if_pos u1, if_pos u2, if_pos u3, bne_self_eq_false, Bool.false_eq_true, reduceIte, emendationlaw05_WeaveEnds.j3]
theorem ends_l0 (b o t : List Int) (x : Int) (i : Nat) (l : List Int) (hi : i < 3) (hl : rd_L3 [b, o, t] (i : Int) = l) (h : Ev (fun k => emendationlaw05_WeaveEnds.l1 k b o t x l [b, o, t] 3 (i : Int) (l.length : Int) 0) true) :
    Ev (fun k => emendationlaw05_WeaveEnds.l0 k b o t x [b, o, t] 3 (i : Int)) true := by
  have z1 : (i : Int) < 3 := by omega
  have z2 : (0 : Int) ≤ (i : Int) := by omega
  have z3 : (i : Int) < (([b, o, t] : List (List Int)).length : Int) := z1
  refine Ev.step (fun k => ?_) h
  rw [emendationlaw05_WeaveEnds.l0, if_pos z1, if_pos z2, if_pos z3, hl]
theorem WeaveEnds (b : List Int) (wb : ∀ s ∈ b, (Lit.int .i64 s).wf = true) (_ : b.length ≤ maxLen) (o : List Int) (wo : ∀ s ∈ o, (Lit.int .i64 s).wf = true) (_ : o.length ≤ maxLen) (t : List Int) (wt : ∀ s ∈ t, (Lit.int .i64 s).wf = true) (_ : t.length ≤ maxLen) :
    ∃ k, emendationlaw05_WeaveEnds.f k b o t = some true := by
  have haw : Ev (fun k => emendationlaw05_WeaveEnds.j0 k b o t true) true := Ev.step (fun _ => rfl) (Ev.bind awake_ev (Ev.now true))
  refine Ev.rounds (Ev.bind awake_ev ?_)
  rw [few_is]
  by_cases h : b.length ≤ 40 ∧ o.length ≤ 40 ∧ t.length ≤ 40
  · obtain ⟨h1, h2, h3⟩ := h
    have hgo : Ev (fun k => emendationlaw05_WeaveEnds.j0 k b o t false) true := by
      refine Ev.step (f := fun k => emendationlaw05_WeaveEnds.l0 k b o t 1 [b, o, t] 3 ((0 : Nat) : Int)) (fun k => rfl) ?_
      refine ends_l0 b o t 1 0 b (by omega) rfl (ends_l1 b o t b _ 3 0 (by omega) wb h1 1 (fun X1 a1 b1 c1 => ?_) b.length 0 1 (Nat.zero_add _) (Int.le_refl _) (by omega) (by simp))
      refine ends_l0 b o t X1 1 o (by omega) rfl (ends_l1 b o t o _ 3 1 (by omega) wo h2 X1 (fun X2 a2 b2 c2 => ?_) o.length 0 X1 (Nat.zero_add _) (Int.le_refl _) b1 (by simp))
      refine ends_l0 b o t X2 2 t (by omega) rfl (ends_l1 b o t t _ 3 2 (by omega) wt h3 X2 (fun X3 a3 b3 c3 => ?_) t.length 0 X2 (Nat.zero_add _) (Int.le_refl _) b2 (by simp))
      exact ends_last b o t X3 h1 h2 h3 (fun a ha => by have := c1 a ha; omega) (fun a ha => by have := c2 a ha; omega) c3 _
    have hboth : ∀ c : Bool, Ev (fun k => emendationlaw05_WeaveEnds.j0 k b o t c) true := by
      intro c; cases c
      · exact hgo
      · exact haw
    rw [decide_eq_true ⟨h1, h2, h3⟩]
    by_cases q1 : (b.length : Int) = 40
    · refine Ev.congr (fun k => ?_) haw
      rw [if_pos rfl, Option.bind_some, if_pos rfl, if_pos q1]
    · by_cases q2 : (o.length : Int) = 40
      · refine Ev.congr (fun k => ?_) haw
        rw [if_pos rfl, Option.bind_some, if_pos rfl, if_neg q1, if_pos q2]
      · refine Ev.congr (fun k => ?_) (hboth ((t.length : Int) == 40))
        rw [if_pos rfl, Option.bind_some, if_pos rfl, if_neg q1, if_neg q2]
  · refine Ev.congr (fun k => ?_) haw
    rw [if_pos rfl, Option.bind_some, decide_eq_false h, if_neg Bool.false_ne_true]
end Go.Proofs.Ytlkgdfeeepiidaa.Pure
