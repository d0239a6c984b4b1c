/- TokenCounts, the plain law: no more tokens than bytes; of one byte, n times, one token or n. -/
import Derived.Test.YtlkgdfeeepiidaaF4
import Derived.Test.YtlkgdfeeepiidaaTokF
import Derived.Test.YtlkgdfeeepiidaaTokL
namespace Go.Proofs.Ytlkgdfeeepiidaa.Pure
open Go.RowKit Go.Proofs.Ytlkgdfeeepiidaa.All Go.Proofs.Ytlkgdfeeepiidaa.Tok Go.Proofs.YtlkgdfeeepiidaaW.PrintWords Go.Proofs.YtlkgdfeeepiidaaW.PrintLast
set_option linter.unusedSimpArgs false
set_option linter.unusedVariables false
def marks (x : Int) : Prop := (x > 32 ∧ x < 48) ∨ (x > 57 ∧ x < 65) ∨ (x > 90 ∧ x < 97) ∨ (x > 122 ∧ x < 127) ∨ x = 10 ∨ x = 13
theorem joins_marks (c : UInt8) : joins c c = true ↔ ¬ marks (c.toNat : Int) := by
  unfold joins cb cls marks
  rw [decide_eq_true_eq]
  have := c.toNat_lt
  generalize (c.toNat : Int) = x
  split
  · omega
  · split
    · omega
    · split <;> omega
theorem rep_length (c : UInt8) (n : Nat) : (marks (c.toNat : Int) → (cutL (List.replicate n c)).length = n) ∧ (¬ marks (c.toNat : Int) → (cutL (List.replicate n c)).length = min n 1) := by
  refine ⟨fun h => ?_, fun h => ?_⟩
  · have hj : joins c c = false := by rw [Bool.eq_false_iff]; intro e; exact (joins_marks c).1 e h
    rw [cutL_rep_each c hj, List.length_replicate]
  · have hj := (joins_marks c).2 h
    cases n with
    | zero => rfl
    | succ n => rw [cutL_rep_one c hj]; simp
theorem one_byte (c : UInt8) : strOfNums [(c.toNat : Int)] = B [c] := by
  apply L_inj
  simp [strOfNums, L, B]
theorem counts_l0 (s : ByteArray) (hs : s.size ≤ 2000) (c : UInt8) (n : Nat) (hn : n ≤ 255) (d : Nat) : ∀ j : Nat, n - j = d → j ≤ n →
    Ev (fun k => emendationlaw03_TokenCounts.l0 k s (c.toNat : Int) (n : Int) (B (List.replicate j c)) (n : Int) (j : Int)) true := by
  induction d with
  | zero =>
    intro j hj hj'
    have hje : j = n := by omega
    subst hje
    obtain ⟨K1, h1⟩ := Cut_ev (B (List.replicate j c)) (by rw [B_size, List.length_replicate]; omega)
    obtain ⟨K2, h2⟩ := Cut_ev s (by omega)
    rw [L_B] at h1
    have z : ¬ (j : Int) < (j : Int) := by omega
    obtain ⟨r1, r2⟩ := rep_length c j
    have hl := cutL_length (L s)
    rw [L_length] at hl
    have w1 : wrap64 (j : Int) = (j : Int) := wrap_in (by omega) (by omega)
    have m1 : mn (j : Int) 1 = ((min j 1 : Nat) : Int) := by unfold mn; split <;> omega
    have hle : decide (((cutL (L s)).length : Int) ≤ (s.size : Int)) = true := decide_eq_true (by omega)
    refine ⟨K1 + K2 + 1, fun k hk => ?_⟩
    obtain ⟨m, rfl⟩ : ∃ m, k = m + 1 := ⟨k - 1, by omega⟩
    have e1 : token_Cut.f m (B (List.replicate j c)) = some _ := h1 m (by omega)
    have e2 : token_Cut.f m s = some _ := h2 m (by omega)
    show emendationlaw03_TokenCounts.l0 (m + 1) s (c.toNat : Int) (j : Int) (B (List.replicate j c)) (j : Int) (j : Int) = some true
    rw [emendationlaw03_TokenCounts.l0, if_neg z, e1, Option.bind_some, e2]
    simp only [Option.bind_some]
    by_cases hm : marks (c.toNat : Int)
    · have r := r1 hm
      have hA : (if (((cutL (List.replicate j c)).map B).length : Int) = wrap64 (j : Int) then some (decide ((((cutL (L s)).map B).length : Int) ≤ (s.size : Int))) else some false) = some true := by
        rw [List.length_map, List.length_map, w1, if_pos (by clear w1 m1; omega), hle]
      simp only [hA]
      clear hA e1 e2 h1 h2 w1 m1 hle r1 r2 r
      unfold marks at hm
      generalize (c.toNat : Int) = x at hm ⊢
      clear hl z hn hs
      rcases (show (33 ≤ x ∧ x ≤ 47) ∨ (58 ≤ x ∧ x ≤ 64) ∨ (91 ≤ x ∧ x ≤ 96) ∨ (123 ≤ x ∧ x ≤ 126) ∨ (10 ≤ x ∧ x ≤ 10) ∨ (13 ≤ x ∧ x ≤ 13) by omega) with h | h | h | h | h | h
      · simp only [show (x > 32) = True from eq_true (by omega), show (x < 48) = True from eq_true (by omega), show (x > 57) = False from eq_false (by omega), show (x < 65) = True from eq_true (by omega), show (x > 90) = False from eq_false (by omega), show (x < 97) = True from eq_true (by omega), show (x > 122) = False from eq_false (by omega), show (x < 127) = True from eq_true (by omega), show (x = 10) = False from eq_false (by omega), show (x = 13) = False from eq_false (by omega), if_true, if_false]
      · simp only [show (x > 32) = True from eq_true (by omega), show (x < 48) = False from eq_false (by omega), show (x > 57) = True from eq_true (by omega), show (x < 65) = True from eq_true (by omega), show (x > 90) = False from eq_false (by omega), show (x < 97) = True from eq_true (by omega), show (x > 122) = False from eq_false (by omega), show (x < 127) = True from eq_true (by omega), show (x = 10) = False from eq_false (by omega), show (x = 13) = False from eq_false (by omega), if_true, if_false]
      · simp only [show (x > 32) = True from eq_true (by omega), show (x < 48) = False from eq_false (by omega), show (x > 57) = True from eq_true (by omega), show (x < 65) = False from eq_false (by omega), show (x > 90) = True from eq_true (by omega), show (x < 97) = True from eq_true (by omega), show (x > 122) = False from eq_false (by omega), show (x < 127) = True from eq_true (by omega), show (x = 10) = False from eq_false (by omega), show (x = 13) = False from eq_false (by omega), if_true, if_false]
      · simp only [show (x > 32) = True from eq_true (by omega), show (x < 48) = False from eq_false (by omega), show (x > 57) = True from eq_true (by omega), show (x < 65) = False from eq_false (by omega), show (x > 90) = True from eq_true (by omega), show (x < 97) = False from eq_false (by omega), show (x > 122) = True from eq_true (by omega), show (x < 127) = True from eq_true (by omega), show (x = 10) = False from eq_false (by omega), show (x = 13) = False from eq_false (by omega), if_true, if_false]
      · simp only [show (x > 32) = False from eq_false (by omega), show (x < 48) = True from eq_true (by omega), show (x > 57) = False from eq_false (by omega), show (x < 65) = True from eq_true (by omega), show (x > 90) = False from eq_false (by omega), show (x < 97) = True from eq_true (by omega), show (x > 122) = False from eq_false (by omega), show (x < 127) = True from eq_true (by omega), show (x = 10) = True from eq_true (by omega), show (x = 13) = False from eq_false (by omega), if_true, if_false]
      · simp only [show (x > 32) = False from eq_false (by omega), show (x < 48) = True from eq_true (by omega), show (x > 57) = False from eq_false (by omega), show (x < 65) = True from eq_true (by omega), show (x > 90) = False from eq_false (by omega), show (x < 97) = True from eq_true (by omega), show (x > 122) = False from eq_false (by omega), show (x < 127) = True from eq_true (by omega), show (x = 10) = False from eq_false (by omega), show (x = 13) = True from eq_true (by omega), if_true, if_false]
    · have r := r2 hm
      have hU : (if (((cutL (List.replicate j c)).map B).length : Int) = mn (wrap64 (j : Int)) 1 then some (decide ((((cutL (L s)).map B).length : Int) ≤ (s.size : Int))) else some false) = some true := by
        rw [List.length_map, List.length_map, w1, m1, if_pos (by clear w1 m1; omega), hle]
      simp only [hU]
      clear hU e1 e2 h1 h2 w1 m1 hle r1 r2 r
      unfold marks at hm
      generalize (c.toNat : Int) = x at hm ⊢
      clear hl z hn hs
      rcases (show (x ≤ 9) ∨ (11 ≤ x ∧ x ≤ 12) ∨ (14 ≤ x ∧ x ≤ 32) ∨ (48 ≤ x ∧ x ≤ 57) ∨ (65 ≤ x ∧ x ≤ 90) ∨ (97 ≤ x ∧ x ≤ 122) ∨ (127 ≤ x) by omega) with h | h | h | h | h | h | h
      · simp only [show (x > 32) = False from eq_false (by omega), show (x < 48) = True from eq_true (by omega), show (x > 57) = False from eq_false (by omega), show (x < 65) = True from eq_true (by omega), show (x > 90) = False from eq_false (by omega), show (x < 97) = True from eq_true (by omega), show (x > 122) = False from eq_false (by omega), show (x < 127) = True from eq_true (by omega), show (x = 10) = False from eq_false (by omega), show (x = 13) = False from eq_false (by omega), if_true, if_false]
      · simp only [show (x > 32) = False from eq_false (by omega), show (x < 48) = True from eq_true (by omega), show (x > 57) = False from eq_false (by omega), show (x < 65) = True from eq_true (by omega), show (x > 90) = False from eq_false (by omega), show (x < 97) = True from eq_true (by omega), show (x > 122) = False from eq_false (by omega), show (x < 127) = True from eq_true (by omega), show (x = 10) = False from eq_false (by omega), show (x = 13) = False from eq_false (by omega), if_true, if_false]
      · simp only [show (x > 32) = False from eq_false (by omega), show (x < 48) = True from eq_true (by omega), show (x > 57) = False from eq_false (by omega), show (x < 65) = True from eq_true (by omega), show (x > 90) = False from eq_false (by omega), show (x < 97) = True from eq_true (by omega), show (x > 122) = False from eq_false (by omega), show (x < 127) = True from eq_true (by omega), show (x = 10) = False from eq_false (by omega), show (x = 13) = False from eq_false (by omega), if_true, if_false]
      · simp only [show (x > 32) = True from eq_true (by omega), show (x < 48) = False from eq_false (by omega), show (x > 57) = False from eq_false (by omega), show (x < 65) = True from eq_true (by omega), show (x > 90) = False from eq_false (by omega), show (x < 97) = True from eq_true (by omega), show (x > 122) = False from eq_false (by omega), show (x < 127) = True from eq_true (by omega), show (x = 10) = False from eq_false (by omega), show (x = 13) = False from eq_false (by omega), if_true, if_false]
      · simp only [show (x > 32) = True from eq_true (by omega), show (x < 48) = False from eq_false (by omega), show (x > 57) = True from eq_true (by omega), show (x < 65) = False from eq_false (by omega), show (x > 90) = False from eq_false (by omega), show (x < 97) = True from eq_true (by omega), show (x > 122) = False from eq_false (by omega), show (x < 127) = True from eq_true (by omega), show (x = 10) = False from eq_false (by omega), show (x = 13) = False from eq_false (by omega), if_true, if_false]
      · simp only [show (x > 32) = True from eq_true (by omega), show (x < 48) = False from eq_false (by omega), show (x > 57) = True from eq_true (by omega), show (x < 65) = False from eq_false (by omega), show (x > 90) = True from eq_true (by omega), show (x < 97) = False from eq_false (by omega), show (x > 122) = False from eq_false (by omega), show (x < 127) = True from eq_true (by omega), show (x = 10) = False from eq_false (by omega), show (x = 13) = False from eq_false (by omega), if_true, if_false]
      · simp only [show (x > 32) = True from eq_true (by omega), show (x < 48) = False from eq_false (by omega), show (x > 57) = True from eq_true (by omega), show (x < 65) = False from eq_false (by omega), show (x > 90) = True from eq_true (by omega), show (x < 97) = False from eq_false (by omega), show (x > 122) = True from eq_true (by omega), show (x < 127) = False from eq_false (by omega), show (x = 10) = False from eq_false (by omega), show (x = 13) = False from eq_false (by omega), if_true, if_false]
  | succ d ih =>
    intro j hj hj'
    have z : (j : Int) < (n : Int) := by omega
    have e : ((j : Int) + 1) % 256 = ((j + 1 : Nat) : Int) := by omega
    have hb := one_byte c
    have z2 : (B (List.replicate j c)).size + (B [c]).size ≤ 9223372036854775807 := by rw [B_size, B_size, List.length_replicate]; simp; omega
    refine Ev.step (fun k => ?_) (ih (j + 1) (by omega) (by omega))
    rw [emendationlaw03_TokenCounts.l0, if_pos z, Option.bind_some, hb, if_pos z2, e, ← B_append, ← List.replicate_succ']
theorem TokenCounts : emendationlaw03_TokenCounts.Pure := by
  intro s x y hs hx hy
  obtain ⟨K1, h1⟩ := awake_ev
  have hx' : 0 ≤ x ∧ x ≤ 255 := by simpa [Lit.wf, IntKind.min, IntKind.max, IntKind.signed, IntKind.bits] using hx
  have hy' : 0 ≤ y ∧ y ≤ 255 := by simpa [Lit.wf, IntKind.min, IntKind.max, IntKind.signed, IntKind.bits] using hy
  by_cases hb : (s.size : Int) > 2000
  · have e0 : emendationlaw03_awake.f (K1 + 1) = _ := h1 _ (by omega)
    have e1 : emendationlaw03_awake.f K1 = _ := h1 _ (by omega)
    refine ⟨K1 + 1, ?_⟩
    rw [emendationlaw03_TokenCounts.f, e0, Option.bind_some, if_pos rfl, decide_eq_true hb, emendationlaw03_TokenCounts.j0, if_pos rfl, e1, Option.bind_some]
  · obtain ⟨K2, h2⟩ := counts_l0 s (by omega) (UInt8.ofNat x.toNat) y.toNat (by omega) _ 0 rfl (Nat.zero_le _)
    have ex : (((UInt8.ofNat x.toNat).toNat : Nat) : Int) = x := by rw [UInt8.toNat_ofNat']; omega
    have ey : ((y.toNat : Nat) : Int) = y := by omega
    rw [ex, ey] at h2
    have e0 : emendationlaw03_awake.f (K1 + K2 + 1) = _ := h1 _ (by omega)
    have e2 : emendationlaw03_TokenCounts.l0 (K1 + K2) s x y (⟨#[]⟩ : ByteArray) y 0 = some true := h2 _ (by omega)
    refine ⟨K1 + K2 + 1, ?_⟩
    rw [emendationlaw03_TokenCounts.f, e0, Option.bind_some, if_pos rfl, decide_eq_false hb, emendationlaw03_TokenCounts.j0, if_neg Bool.false_ne_true, e2]
end Go.Proofs.Ytlkgdfeeepiidaa.Pure
