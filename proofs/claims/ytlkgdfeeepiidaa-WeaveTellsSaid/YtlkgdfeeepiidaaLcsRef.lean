/- What the document's answer for layer 4 comes to: the same table, the same places. -/
import Derived.Test.YtlkgdfeeepiidaaLcsG
import Derived.Test.YtlkgdfeeepiidaaF32
import Derived.Test.YtlkgdfeeepiidaaF36
namespace Go.Proofs.Ytlkgdfeeepiidaa.Lcs
open Go.RowKit Go.Proofs.Ytlkgdfeeepiidaa.All Go.Proofs.Ytlkgdfeeepiidaa.XLcs Go.Proofs.YtlkgdfeeepiidaaW.PrintWords Go.Proofs.YtlkgdfeeepiidaaW.PrintLast
set_option linter.unusedSimpArgs false
set_option linter.unusedVariables false
theorem wsucc (n : Nat) (h : n < 1000000000000) : wrap64 ((n : Int) + 1) = ((n + 1 : Nat) : Int) := by rw [wrap_in (by omega) (by omega)]; omega
theorem wpred (n : Nat) (h : n < 1000000000000) : wrap64 (((n + 1 : Nat) : Int) - 1) = (n : Int) := by rw [wrap_in (by omega) (by omega)]; omega
theorem wpred' (n : Nat) (h : n < 1000000000000) : wrap64 ((n : Int) - 1) = (n : Int) - 1 := by rw [wrap_in (by omega) (by omega)]

def rowL (a b : List Int) (i : Nat) : List Int := (List.range (b.length + 1)).map (fun k => (tv a b i k : Int))
def rowP (a b : List Int) (i c : Nat) : List Int := (List.range (b.length + 1)).map (fun k => if c ≤ k then (tv a b i k : Int) else 0)
def tab (a b : List Int) (i : Nat) : List (List Int) := (List.range (a.length + 1)).map (fun r => if i ≤ r then rowL a b r else [])
theorem rowL_length (a b : List Int) (i : Nat) : (rowL a b i).length = b.length + 1 := by simp [rowL]
theorem rowP_length (a b : List Int) (i c : Nat) : (rowP a b i c).length = b.length + 1 := by simp [rowP]
theorem tab_length (a b : List Int) (i : Nat) : (tab a b i).length = a.length + 1 := by simp [tab]
theorem rowL_get (a b : List Int) (i k : Nat) (h : k ≤ b.length) : rd (rowL a b i) (k : Int) = (tv a b i k : Int) := by
  unfold rd rowL
  simp [List.getD_eq_getElem?_getD, List.getElem?_range (show k < b.length + 1 by omega)]
theorem rowP_get (a b : List Int) (i c k : Nat) (h : k ≤ b.length) (hc : c ≤ k) : rd (rowP a b i c) (k : Int) = (tv a b i k : Int) := by
  unfold rd rowP
  simp [List.getD_eq_getElem?_getD, List.getElem?_range (show k < b.length + 1 by omega), hc]
theorem tab_get (a b : List Int) (i r : Nat) (h : r ≤ a.length) (hc : i ≤ r) : rd_L3 (tab a b i) (r : Int) = rowL a b r := by
  unfold rd_L3 tab
  simp [List.getD_eq_getElem?_getD, List.getElem?_range (show r < a.length + 1 by omega), hc]
theorem tab_none (a b : List Int) : tab a b (a.length + 1) = List.replicate (a.length + 1) [] := by
  apply List.ext_getElem
  · simp [tab]
  · intro j h1 h2
    simp [tab] at h1 ⊢
    omega
theorem tab_set (a b : List Int) (i : Nat) : (tab a b (i + 1)).set i (rowL a b i) = tab a b i := by
  apply List.ext_getElem
  · simp [tab]
  · intro j h1 h2
    simp only [List.getElem_set, tab, List.getElem_map, List.getElem_range]
    by_cases hj : i = j
    · subst hj; simp
    · rw [if_neg hj]
      by_cases hi : i ≤ j
      · rw [if_pos hi, if_pos (by omega)]
      · rw [if_neg hi, if_neg (by omega)]
theorem rowP_set (a b : List Int) (i c : Nat) : (rowP a b i (c + 1)).set c (tv a b i c : Int) = rowP a b i c := by
  apply List.ext_getElem
  · simp [rowP]
  · intro j h1 h2
    simp only [List.getElem_set, rowP, List.getElem_map, List.getElem_range]
    by_cases hj : c = j
    · subst hj; simp
    · rw [if_neg hj]
      by_cases hi : c ≤ j
      · rw [if_pos hi, if_pos (by omega)]
      · rw [if_neg hi, if_neg (by omega)]
theorem rowP_zero (a b : List Int) (i : Nat) : rowP a b i 0 = rowL a b i := by simp [rowP, rowL]
theorem rowP_end (a b : List Int) (i : Nat) : List.replicate (b.length + 1) 0 = rowP a b i b.length := by
  apply List.ext_getElem
  · simp [rowP]
  · intro j h1 h2
    simp [rowP] at h1 ⊢
    intro h; rw [tv_right a b i j h]; rfl
theorem rowP_last (a b : List Int) (i c : Nat) (h : a.length ≤ i) : rowP a b i c = rowL a b i := by
  apply List.ext_getElem
  · simp [rowP, rowL]
  · intro j h1 h2
    simp [rowP, rowL]
    intro _; rw [tv_left a b i j h]; rfl
theorem L3_set_same (t : List (List Int)) (i : Nat) (r : List Int) (h : i < t.length) : rd_L3 (t.set i r) (i : Int) = r := by unfold rd_L3; simp [List.getD_eq_getElem?_getD, h]
theorem L3_set_other (t : List (List Int)) (i j : Nat) (r : List Int) (h : i ≠ j) : rd_L3 (t.set i r) (j : Int) = rd_L3 t (j : Int) := by unfold rd_L3; simp [List.getD_eq_getElem?_getD, List.getElem?_set, h]

theorem table_l0 (a b : List Int) (ha : a.length ≤ 100000) (hb : b.length ≤ 100000) : ∀ i : Nat, i ≤ a.length + 1 →
    Ev (fun k => emendationref04_table.l0 k a b (tab a b i) ((i : Int) - 1)) (tab a b 0) := by
  have hw := Aside0.mk (wsucc b.length (by omega))
  have hwp := Aside0.mk (wpred' b.length (by omega))
  intro i
  induction i with
  | zero =>
    intro _
    refine ⟨1, fun k hk => ?_⟩
    obtain ⟨m, rfl⟩ : ∃ m, k = m + 1 := ⟨k - 1, by omega⟩
    have z : ¬ ((0 : Nat) : Int) - 1 ≥ 0 := by omega
    show emendationref04_table.l0 (m + 1) a b (tab a b 0) (((0 : Nat) : Int) - 1) = _
    rw [emendationref04_table.l0, if_neg z]
  | succ i ih =>
    intro hi
    have nx := ih (by omega)
    have hti : i < (tab a b (i + 1)).length := by rw [tab_length]; omega
    -- the columns
    have cols : ∀ c : Nat, c ≤ b.length → Ev (fun k => emendationref04_table.l1 k a b ((tab a b (i + 1)).set i (rowP a b i c)) (i : Int) ((c : Int) - 1)) (tab a b 0) := by
      intro c
      induction c with
      | zero =>
        intro _
        have z : ¬ ((0 : Nat) : Int) - 1 ≥ 0 := by omega
        refine Ev.step (fun k => ?_) (Ev.step (f := fun k => emendationref04_table.l0 k a b (tab a b i) ((i : Int) - 1)) (g := fun k => emendationref04_table.j2 k a b (tab a b i) (i : Int) (((0 : Nat) : Int) - 1) false) (fun k => ?_) nx)
        · rw [emendationref04_table.l1, if_neg z, rowP_zero, tab_set]
        · rw [emendationref04_table.j2, if_neg Bool.false_ne_true, wpred' i (by omega)]
      | succ c ihc =>
        intro hc
        have z : ((c + 1 : Nat) : Int) - 1 ≥ 0 := by omega
        have e : ((c + 1 : Nat) : Int) - 1 = (c : Int) := by omega
        by_cases hia : i < a.length
        · have nc := ihc (by omega)
          have w1 := Aside0.mk (wsucc i (by omega))
          have w2 := Aside0.mk (wsucc c (by omega))
          have w3 := Aside0.mk (wpred' c (by omega))
          have y1 : (i : Int) < (a.length : Int) := by omega
          have y2 : (0 : Int) ≤ (i : Int) := by omega
          have y3 : (c : Int) < (b.length : Int) := by omega
          have y4 : (0 : Int) ≤ (c : Int) := by omega
          have t1 : (((tab a b (i + 1)).set i (rowP a b i (c + 1))).length : Int) = ((a.length + 1 : Nat) : Int) := by rw [List.length_set, tab_length]
          have y5 : (i : Int) < ((a.length + 1 : Nat) : Int) := by omega
          have y6 : (0 : Int) ≤ ((i + 1 : Nat) : Int) := by omega
          have y7 : ((i + 1 : Nat) : Int) < ((a.length + 1 : Nat) : Int) := by omega
          have y8 : (0 : Int) ≤ ((c + 1 : Nat) : Int) := by omega
          have y9 : ((c + 1 : Nat) : Int) < ((b.length + 1 : Nat) : Int) := by omega
          have y10 : (c : Int) < ((b.length + 1 : Nat) : Int) := by omega
          have r1 : rd_L3 ((tab a b (i + 1)).set i (rowP a b i (c + 1))) ((i + 1 : Nat) : Int) = rowL a b (i + 1) := by
            rw [L3_set_other _ _ _ _ (by omega), tab_get a b (i + 1) (i + 1) (by omega) (by omega)]
          have r0 : rd_L3 ((tab a b (i + 1)).set i (rowP a b i (c + 1))) (i : Int) = rowP a b i (c + 1) := L3_set_same _ _ _ hti
          have v1 := rowL_get a b (i + 1) (c + 1) (by omega)
          have v2 := rowL_get a b (i + 1) c (by omega)
          have v3 := rowP_get a b i (c + 1) (c + 1) (by omega) (by omega)
          have q0 := rd_nat a i (by omega)
          have q1 := rd_nat b c (by omega)
          have tle := tv_le a b (i + 1) (c + 1)
          have wt : wrap64 ((tv a b (i + 1) (c + 1) : Int) + 1) = ((tv a b (i + 1) (c + 1) + 1 : Nat) : Int) := wsucc _ (by clear v1 v2 v3 q0 q1; omega)
          have mt : mx (tv a b (i + 1) c : Int) (tv a b i (c + 1) : Int) = ((max (tv a b (i + 1) c) (tv a b i (c + 1)) : Nat) : Int) := by clear v1 v2 v3 q0 q1 wt; unfold mx; split <;> omega
          have te := tv_eq a b i c (by omega) (by omega)
          refine Ev.step (fun k => ?_) (Ev.step (f := fun k => emendationref04_table.l1 k a b ((tab a b (i + 1)).set i (rowP a b i c)) (i : Int) ((c : Int) - 1)) (g := fun k => emendationref04_table.j2 k a b ((tab a b (i + 1)).set i (rowP a b i (c + 1))) (i : Int) (c : Int) true) (fun k => ?_) nc)
          · rw [emendationref04_table.l1, if_pos z, e, decide_eq_true y1]
          · rw [emendationref04_table.j2, if_pos rfl, if_pos y2, if_pos y1, if_pos y4, if_pos y3, t1, w1.out, w2.out, w3.out, r1, r0, rowL_length, rowP_length, q0, q1, Int.toNat_natCast, Int.toNat_natCast]
            by_cases hab : a[i] = b[c]
            · rw [if_pos hab] at te
              rw [if_pos hab, if_pos y5, if_pos y6, if_pos y7, if_pos y8, if_pos y9, if_pos y10, v1, wt, ← te, rowP_set, List.set_set]
            · rw [if_neg hab] at te
              rw [if_neg hab, if_pos y5, if_pos y6, if_pos y7, if_pos y10, if_pos y8, if_pos y9, if_pos y10, v2, v3, mt, ← te, rowP_set, List.set_set]
        · have y1 : ¬ (i : Int) < (a.length : Int) := by omega
          refine Ev.step (fun k => ?_) (Ev.step (f := fun k => emendationref04_table.l0 k a b (tab a b i) ((i : Int) - 1)) (g := fun k => emendationref04_table.j2 k a b (tab a b i) (i : Int) (c : Int) false) (fun k => ?_) nx)
          · rw [emendationref04_table.l1, if_pos z, e, decide_eq_false y1, rowP_last a b i _ (by omega), tab_set]
          · rw [emendationref04_table.j2, if_neg Bool.false_ne_true, wpred' i (by omega)]
    have e : ((i + 1 : Nat) : Int) - 1 = (i : Int) := by omega
    have z1 : (i : Int) ≥ 0 := by omega
    have z2 : (0 : Int) ≤ ((b.length + 1 : Nat) : Int) := by omega
    have z3 : b.length + 1 ≤ 35184372088832 := by omega
    have z4 : (i : Int) < ((tab a b (i + 1)).length : Int) := by omega
    refine Ev.step (fun k => ?_) (cols b.length (Nat.le_refl _))
    rw [emendationref04_table.l0, e, if_pos z1, hw.out, if_pos z2, Int.toNat_natCast, if_pos z3, if_pos z1, if_pos z4, Int.toNat_natCast, rowP_end a b i, hwp.out]
theorem table_ev (a b : List Int) (ha : a.length ≤ 100000) (hb : b.length ≤ 100000) : Ev (fun k => emendationref04_table.f k a b) (tab a b 0) := by
  have h := table_l0 a b ha hb (a.length + 1) (Nat.le_refl _)
  have hw := wsucc a.length (by omega)
  have z1 : (0 : Int) ≤ ((a.length + 1 : Nat) : Int) := by omega
  have z2 : a.length + 1 ≤ 11728124029610 := by omega
  have e : ((a.length + 1 : Nat) : Int) - 1 = (a.length : Int) := by omega
  rw [tab_none, e] at h
  refine Ev.congr (fun k => ?_) h
  rw [emendationref04_table.f, hw, if_pos z1, Int.toNat_natCast, if_pos z2]
theorem RefLength_ev (a b : List Int) (ha : a.length ≤ 100000) (hb : b.length ≤ 100000) : Ev (fun k => emendationref04_Length.f k a b) (lcs a b : Int) := by
  have g0 : rd_L3 (tab a b 0) 0 = rowL a b 0 := tab_get a b 0 0 (by omega) (by omega)
  have g1 : rd (rowL a b 0) 0 = (tv a b 0 0 : Int) := rowL_get a b 0 0 (by omega)
  have g2 : tv a b 0 0 = lcs a b := rfl
  have z1 : (0 : Int) < ((tab a b 0).length : Int) := by rw [tab_length]; omega
  have z2 : (0 : Int) < ((rowL a b 0).length : Int) := by rw [rowL_length]; omega
  refine Ev.bind (table_ev a b ha hb) ⟨0, fun k _ => ?_⟩
  show (if 0 < ((tab a b 0).length : Int) then (if 0 < ((rd_L3 (tab a b 0) 0).length : Int) then (some (rd (rd_L3 (tab a b 0) 0) 0)) else none) else none) = _
  rw [if_pos z1, g0, if_pos z2, g1, g2]
def P91 (p : Nat × Nat) : S91 := ⟨(p.1 : Int), (p.2 : Int)⟩
theorem refPairs_l0 (a b : List Int) (ha : a.length ≤ 100000) (hb : b.length ≤ 100000) (d : Nat) : ∀ (i c : Nat) (out : List S91), (a.length - i) + (b.length - c) = d → i ≤ a.length → c ≤ b.length → out.length ≤ i →
    Ev (fun k => emendationref04_Pairs.l0 k a b (tab a b 0) out (i : Int) (c : Int)) (out ++ (prs a b i c).map P91) := by
  induction d using Nat.strongRecOn with
  | ind d ih =>
    intro i c out hd hi hc ho
    by_cases h : i < a.length ∧ c < b.length
    · obtain ⟨h1, h2⟩ := h
      have w1 := Aside0.mk (wsucc i (by omega))
      have w2 := Aside0.mk (wsucc c (by omega))
      have y1 : (i : Int) < (a.length : Int) := by omega
      have y2 : (0 : Int) ≤ (i : Int) := by omega
      have y3 : (c : Int) < (b.length : Int) := by omega
      have y4 : (0 : Int) ≤ (c : Int) := by omega
      have yl : out.length < 8796093022208 := by omega
      by_cases he : a[i] = b[c]
      · have nx := ih ((a.length - (i + 1)) + (b.length - (c + 1))) (by clear he; omega) (i + 1) (c + 1) (out ++ [P91 (i, c)]) rfl (by clear he; omega) (by clear he; omega) (by clear he; rw [List.length_append, List.length_singleton]; omega)
        have hp := prs_same a b i c h1 h2 he
        have q : rd a (i : Int) = rd b (c : Int) := by rw [rd_nat a i h1, rd_nat b c h2, he]
        rw [hp, List.map_cons, ← List.singleton_append, ← List.append_assoc]
        refine Ev.step (fun k => ?_) (Ev.step (f := fun k => emendationref04_Pairs.l0 k a b (tab a b 0) (out ++ [P91 (i, c)]) ((i + 1 : Nat) : Int) ((c + 1 : Nat) : Int)) (g := fun k => emendationref04_Pairs.j1 k a b (tab a b 0) out (i : Int) (c : Int) true) (fun k => ?_) nx)
        · rw [emendationref04_Pairs.l0, if_pos y1, decide_eq_true y3]
        · rw [emendationref04_Pairs.j1, if_pos rfl, if_pos y2, if_pos y1, if_pos y4, if_pos y3, if_pos q, if_pos yl, w1.out, w2.out]; rfl
      · have q : ¬ rd a (i : Int) = rd b (c : Int) := by rw [rd_nat a i h1, rd_nat b c h2]; exact he
        replace he := Aside0.mk he
        have hq := Aside0.mk q
        clear q
        have y5 : (i : Int) < ((a.length + 1 : Nat) : Int) := by omega
        have y6 : (0 : Int) ≤ ((i + 1 : Nat) : Int) := by omega
        have y7 : ((i + 1 : Nat) : Int) < ((a.length + 1 : Nat) : Int) := by omega
        have y8 : (0 : Int) ≤ ((c + 1 : Nat) : Int) := by omega
        have y9 : ((c + 1 : Nat) : Int) < ((b.length + 1 : Nat) : Int) := by omega
        have y10 : (c : Int) < ((b.length + 1 : Nat) : Int) := by omega
        have r1 := tab_get a b 0 (i + 1) (by omega) (by omega)
        have r0 := tab_get a b 0 i (by omega) (by omega)
        have v2 := Aside0.mk (rowL_get a b (i + 1) c (by omega))
        have v3 := Aside0.mk (rowL_get a b i (c + 1) (by omega))
        by_cases hv : tv a b i (c + 1) ≤ tv a b (i + 1) c
        · have hge : (tv a b (i + 1) c : Int) ≥ (tv a b i (c + 1) : Int) := by omega
          have nx := ih ((a.length - (i + 1)) + (b.length - c)) (by omega) (i + 1) c out rfl (by omega) (by omega) (by omega)
          rw [prs_down a b i c h1 h2 he.out hv]
          refine Ev.step (fun k => ?_) (Ev.step (f := fun k => emendationref04_Pairs.l0 k a b (tab a b 0) out ((i + 1 : Nat) : Int) (c : Int)) (g := fun k => emendationref04_Pairs.j1 k a b (tab a b 0) out (i : Int) (c : Int) true) (fun k => ?_) nx)
          · rw [emendationref04_Pairs.l0, if_pos y1, decide_eq_true y3]
          · rw [emendationref04_Pairs.j1, if_pos rfl, if_pos y2, if_pos y1, if_pos y4, if_pos y3, if_neg hq.out, w1.out, w2.out, r1, r0, tab_length, rowL_length, rowL_length, if_pos y6, if_pos y7, if_pos y10, if_pos y5, if_pos y8, if_pos y9, v2.out, v3.out, if_pos hge]
        · have hge : ¬ (tv a b (i + 1) c : Int) ≥ (tv a b i (c + 1) : Int) := by omega
          have nx := ih ((a.length - i) + (b.length - (c + 1))) (by omega) i (c + 1) out rfl (by omega) (by omega) (by omega)
          rw [prs_right a b i c h1 h2 he.out hv]
          refine Ev.step (fun k => ?_) (Ev.step (f := fun k => emendationref04_Pairs.l0 k a b (tab a b 0) out (i : Int) ((c + 1 : Nat) : Int)) (g := fun k => emendationref04_Pairs.j1 k a b (tab a b 0) out (i : Int) (c : Int) true) (fun k => ?_) nx)
          · rw [emendationref04_Pairs.l0, if_pos y1, decide_eq_true y3]
          · rw [emendationref04_Pairs.j1, if_pos rfl, if_pos y2, if_pos y1, if_pos y4, if_pos y3, if_neg hq.out, w1.out, w2.out, r1, r0, tab_length, rowL_length, rowL_length, if_pos y6, if_pos y7, if_pos y10, if_pos y5, if_pos y8, if_pos y9, v2.out, v3.out, if_neg hge]
    · rw [prs_end a b i c h, List.map_nil, List.append_nil]
      refine ⟨2, fun k hk => ?_⟩
      obtain ⟨m, rfl⟩ : ∃ m, k = m + 1 + 1 := ⟨k - 2, by omega⟩
      show emendationref04_Pairs.l0 (m + 1 + 1) a b (tab a b 0) out (i : Int) (c : Int) = _
      by_cases h1 : (i : Int) < (a.length : Int)
      · have h2 : ¬ (c : Int) < (b.length : Int) := by omega
        rw [emendationref04_Pairs.l0, if_pos h1, decide_eq_false h2, emendationref04_Pairs.j1, if_neg Bool.false_ne_true]
      · rw [emendationref04_Pairs.l0, if_neg h1, emendationref04_Pairs.j1, if_neg Bool.false_ne_true]
theorem RefPairs_ev (a b : List Int) (ha : a.length ≤ 100000) (hb : b.length ≤ 100000) : Ev (fun k => emendationref04_Pairs.f k a b) ((prs a b 0 0).map P91) := by
  have h := refPairs_l0 a b ha hb _ 0 0 [] rfl (Nat.zero_le _) (Nat.zero_le _) (Nat.le_refl _)
  exact Ev.bind (table_ev a b ha hb) h
end Go.Proofs.Ytlkgdfeeepiidaa.Lcs
