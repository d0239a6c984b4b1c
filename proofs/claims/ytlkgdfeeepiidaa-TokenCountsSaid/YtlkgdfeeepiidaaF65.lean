-- Made by a program of this session (wip/mk.py) over the kit's printing program; Lean checks it.
import Derived.Test.YtlkgdfeeepiidaaF0
namespace Go.Proofs.Ytlkgdfeeepiidaa.All
open Go.RowKit Go.Proofs.YtlkgdfeeepiidaaW.PrintWords Go.Proofs.YtlkgdfeeepiidaaW.PrintLast Go.Proofs.YtlkgdfeeepiidaaW.PrintMore
attribute [local go_sem] max2_int min2_int max_two min_two max_three min_three max_four min_four   -- for this text's walks alone
set_option linter.unusedVariables false
set_option linter.unusedSimpArgs false

/-! ### emendationref01_Class: function 65 -/
mutual
def emendationref01_Class.j0 : Nat → Int → Bool → Option (Int)
  | 0, _, _ => none
  | k + 1, x0, x8 => if x8 = true then (some 3) else (if x0 = 9 then (emendationref01_Class.j1 k x0 true) else (emendationref01_Class.j1 k x0 (x0 == 32)))
def emendationref01_Class.j1 : Nat → Int → Bool → Option (Int)
  | 0, _, _ => none
  | k + 1, x0, x14 => if x14 = true then (some 2) else (if x0 ≥ 33 then (if x0 ≤ 47 then (some 4) else (if x0 ≥ 58 then (if x0 ≤ 64 then (some 4) else (if x0 ≥ 91 then (if x0 ≤ 96 then (some 4) else (if x0 ≥ 123 then (if x0 ≤ 126 then (some 4) else (some 1)) else (some 1))) else (if x0 ≥ 123 then (if x0 ≤ 126 then (some 4) else (some 1)) else (some 1)))) else (if x0 ≥ 91 then (if x0 ≤ 96 then (some 4) else (if x0 ≥ 123 then (if x0 ≤ 126 then (some 4) else (some 1)) else (some 1))) else (if x0 ≥ 123 then (if x0 ≤ 126 then (some 4) else (some 1)) else (some 1))))) else (if x0 ≥ 58 then (if x0 ≤ 64 then (some 4) else (if x0 ≥ 91 then (if x0 ≤ 96 then (some 4) else (if x0 ≥ 123 then (if x0 ≤ 126 then (some 4) else (some 1)) else (some 1))) else (if x0 ≥ 123 then (if x0 ≤ 126 then (some 4) else (some 1)) else (some 1)))) else (if x0 ≥ 91 then (if x0 ≤ 96 then (some 4) else (if x0 ≥ 123 then (if x0 ≤ 126 then (some 4) else (some 1)) else (some 1))) else (if x0 ≥ 123 then (if x0 ≤ 126 then (some 4) else (some 1)) else (some 1)))))
end
def emendationref01_Class.f (k : Nat) (a0 : Int) : Option (Int) := if a0 = 10 then (emendationref01_Class.j0 k a0 true) else (emendationref01_Class.j0 k a0 (a0 == 13))
theorem emendationref01_Class.mono_l : ∀ k, (∀ y0 y1, LeO (emendationref01_Class.j0 k y0 y1) (emendationref01_Class.j0 (k + 1) y0 y1)) ∧ (∀ y0 y1, LeO (emendationref01_Class.j1 k y0 y1) (emendationref01_Class.j1 (k + 1) y0 y1))
  | 0 => ⟨fun _ _ r h => by simp [emendationref01_Class.j0] at h, fun _ _ r h => by simp [emendationref01_Class.j1] at h⟩
  | k + 1 => by
    obtain ⟨ih0, ih1⟩ := emendationref01_Class.mono_l k
    refine ⟨?_, ?_⟩
    · intro y0 y1
      unfold emendationref01_Class.j0
      repeat' first
      | (with_reducible exact ih0 _ _)
      | (with_reducible exact ih1 _ _)
      | (with_reducible exact LeO.refl _)
      | (with_reducible exact LeO.none _)
      | (with_reducible refine LeO.ite ?_ ?_)
      | (with_reducible refine LeO.bind ?_ (fun _ => ?_))
      | exact ih0 _ _
      | exact ih1 _ _
      | exact LeO.none _
      | refine LeO.ite ?_ ?_
      | refine LeO.bind ?_ (fun _ => ?_)
    · intro y0 y1
      unfold emendationref01_Class.j1
      repeat' first
      | (with_reducible exact ih0 _ _)
      | (with_reducible exact ih1 _ _)
      | (with_reducible exact LeO.refl _)
      | (with_reducible exact LeO.none _)
      | (with_reducible refine LeO.ite ?_ ?_)
      | (with_reducible refine LeO.bind ?_ (fun _ => ?_))
      | exact ih0 _ _
      | exact ih1 _ _
      | exact LeO.none _
      | refine LeO.ite ?_ ?_
      | refine LeO.bind ?_ (fun _ => ?_)
theorem emendationref01_Class.mono : ∀ a0 k, LeO (emendationref01_Class.f k a0) (emendationref01_Class.f (k + 1) a0) := by
  intro a0 k
  obtain ⟨ih0, ih1⟩ := emendationref01_Class.mono_l k
  unfold emendationref01_Class.f
  repeat' first
      | (with_reducible exact ih0 _ _)
      | (with_reducible exact ih1 _ _)
      | (with_reducible exact LeO.refl _)
      | (with_reducible exact LeO.none _)
      | (with_reducible refine LeO.ite ?_ ?_)
      | (with_reducible refine LeO.bind ?_ (fun _ => ?_))
      | exact ih0 _ _
      | exact ih1 _ _
      | exact LeO.none _
      | refine LeO.ite ?_ ?_
      | refine LeO.bind ?_ (fun _ => ?_)
set_option maxHeartbeats 8000000 in
set_option maxRecDepth 100000 in
theorem emendationref01_Class.calls (k : Nat) (a0 : Int) (r : Int) (w : World) (h : emendationref01_Class.f k a0 = some r) :
    Calls Try.prog 65 #[.int .i64 a0] w fun e w' => e = .returned (.int .i64 r) ∧ Drawn0 w w' := by
  have H : (if a0 = 10 then (emendationref01_Class.j0 k a0 true) else (emendationref01_Class.j0 k a0 (a0 == 13))) = some r := h
  clear h
  have HC2 := Aside0.mk H
  clear H
  go_enter Try.func65, Try.ntmps65
  go_upto_region 1 with (fail)
  go_cut [8] (fun v8 wc => ∃ (kq : Nat) (x8_1 : Bool), v8 = .bool x8_1 ∧ Aside0 (emendationref01_Class.j0 kq a0 x8_1 = some r) ∧ Aside0 (kq ≤ k) ∧ Drawn0 w wc)
  case first =>
    have H := HC2.out
    clear HC2
    by_cases c3 : a0 = 10
    · rw [if_pos c3] at H
      have c3b0 : (a0 == 10) = true := beq_iff_eq.mpr c3
      have c3b1 : (a0 != 10) = false := bne_eq_false_iff_eq.mpr c3
      clear c3
      (first | rw [c3b0] | (simp only [i64_w, i32_w]; rw [c3b0]) | skip)
      have H' := Aside0.mk H
      clear H
      go_wp2
      go_meet
      case rel => exact ⟨_, (true), (by first | rfl | (simp; done) | (simp [*]; done)), H', ⟨by first | omega | exact Nat.le_refl _⟩, by repeat (first | exact Drawn0.refl _ | apply Drawn0.step)⟩
    · rw [if_neg c3] at H
      have c3b0 : (a0 == 10) = false := beq_eq_false_iff_ne.mpr c3
      have c3b1 : (a0 != 10) = true := bne_iff_ne.mpr c3
      (first | rw [c3b0] | (simp only [i64_w, i32_w]; rw [c3b0]) | skip)
      have H' := Aside0.mk H
      clear H
      go_wp2
      go_meet
      case rel => exact ⟨_, ((a0 == 13)), (by first | rfl | (simp; done) | (simp [*]; done)), H', ⟨by first | omega | exact Nat.le_refl _⟩, by repeat (first | exact Drawn0.refl _ | apply Drawn0.step)⟩
  case rest =>
    clear HC2
    try clear p2
    try clear c3
    try clear c3b0
    try clear c3b1
    obtain ⟨kq, x8_1, rfl, HA, HJ1, ⟨mc1, rfl⟩⟩ := hcut
    cases kq with
    | zero => exact absurd HA.out (by simp [emendationref01_Class.j0])
    | succ kj1 =>
      have H := HA.out
      clear HA
      simp only [emendationref01_Class.j0] at H
      by_cases c4 : x8_1 = true
      · subst c4
        have H1 : (some 3) = some r := by rw [if_pos rfl] at H; exact H
        clear H
        have H := H1
        clear H1
        obtain rfl := Option.some.inj H
        go_wp2
        go_ret
        exact ⟨by first | rfl | (simp; done) | (simp [*]; done), by repeat (first | exact Drawn0.refl _ | apply Drawn0.step)⟩
      · replace c4 := Bool.eq_false_iff.mpr c4
        subst c4
        have H1 : (if a0 = 9 then (emendationref01_Class.j1 kj1 a0 true) else (emendationref01_Class.j1 kj1 a0 (a0 == 32))) = some r := by rw [if_neg (show ¬ (false = true) by decide)] at H; exact H
        clear H
        have H := H1
        clear H1
        have HC5 := Aside0.mk H
        clear H
        go_upto_region 3 with (fail)
        go_cut [14] (fun v14 wc => ∃ (kq : Nat) (x14_4 : Bool), v14 = .bool x14_4 ∧ Aside0 (emendationref01_Class.j1 kq a0 x14_4 = some r) ∧ Aside0 (kq ≤ kj1) ∧ Drawn0 w wc)
        case first =>
          have H := HC5.out
          clear HC5
          by_cases c6 : a0 = 9
          · rw [if_pos c6] at H
            have c6b0 : (a0 == 9) = true := beq_iff_eq.mpr c6
            have c6b1 : (a0 != 9) = false := bne_eq_false_iff_eq.mpr c6
            clear c6
            (first | rw [c6b0] | (simp only [i64_w, i32_w]; rw [c6b0]) | skip)
            have H' := Aside0.mk H
            clear H
            go_wp2
            go_meet
            case rel => exact ⟨_, (true), (by first | rfl | (simp; done) | (simp [*]; done)), H', ⟨by have := HJ1.out; first | omega | exact Nat.le_refl _⟩, by repeat (first | exact Drawn0.refl _ | apply Drawn0.step)⟩
          · rw [if_neg c6] at H
            have c6b0 : (a0 == 9) = false := beq_eq_false_iff_ne.mpr c6
            have c6b1 : (a0 != 9) = true := bne_iff_ne.mpr c6
            (first | rw [c6b0] | (simp only [i64_w, i32_w]; rw [c6b0]) | skip)
            have H' := Aside0.mk H
            clear H
            go_wp2
            go_meet
            case rel => exact ⟨_, ((a0 == 32)), (by first | rfl | (simp; done) | (simp [*]; done)), H', ⟨by have := HJ1.out; first | omega | exact Nat.le_refl _⟩, by repeat (first | exact Drawn0.refl _ | apply Drawn0.step)⟩
        case rest =>
          clear HC5
          try clear c1
          try clear p2
          try clear c3
          try clear c3b0
          try clear c3b1
          try clear c4
          try clear c6
          try clear c6b0
          try clear c6b1
          try clear p2
          obtain ⟨kq, x14_4, rfl, HA, HJ4, ⟨mc4, rfl⟩⟩ := hcut
          cases kq with
          | zero => exact absurd HA.out (by simp [emendationref01_Class.j1])
          | succ kj4 =>
            have H := HA.out
            clear HA
            simp only [emendationref01_Class.j1] at H
            by_cases c7 : x14_4 = true
            · subst c7
              have H1 : (some 2) = some r := by rw [if_pos rfl] at H; exact H
              clear H
              have H := H1
              clear H1
              obtain rfl := Option.some.inj H
              go_wp2
              go_ret
              exact ⟨by first | rfl | (simp; done) | (simp [*]; done), by repeat (first | exact Drawn0.refl _ | apply Drawn0.step)⟩
            · replace c7 := Bool.eq_false_iff.mpr c7
              subst c7
              have H1 : (if a0 ≥ 33 then (if a0 ≤ 47 then (some 4) else (if a0 ≥ 58 then (if a0 ≤ 64 then (some 4) else (if a0 ≥ 91 then (if a0 ≤ 96 then (some 4) else (if a0 ≥ 123 then (if a0 ≤ 126 then (some 4) else (some 1)) else (some 1))) else (if a0 ≥ 123 then (if a0 ≤ 126 then (some 4) else (some 1)) else (some 1)))) else (if a0 ≥ 91 then (if a0 ≤ 96 then (some 4) else (if a0 ≥ 123 then (if a0 ≤ 126 then (some 4) else (some 1)) else (some 1))) else (if a0 ≥ 123 then (if a0 ≤ 126 then (some 4) else (some 1)) else (some 1))))) else (if a0 ≥ 58 then (if a0 ≤ 64 then (some 4) else (if a0 ≥ 91 then (if a0 ≤ 96 then (some 4) else (if a0 ≥ 123 then (if a0 ≤ 126 then (some 4) else (some 1)) else (some 1))) else (if a0 ≥ 123 then (if a0 ≤ 126 then (some 4) else (some 1)) else (some 1)))) else (if a0 ≥ 91 then (if a0 ≤ 96 then (some 4) else (if a0 ≥ 123 then (if a0 ≤ 126 then (some 4) else (some 1)) else (some 1))) else (if a0 ≥ 123 then (if a0 ≤ 126 then (some 4) else (some 1)) else (some 1))))) = some r := by rw [if_neg (show ¬ (false = true) by decide)] at H; exact H
              clear H
              have H := H1
              clear H1
              by_cases c8 : a0 ≥ 33
              · rw [if_pos c8] at H
                have c8b0 : decide (33 ≤ a0) = true := decide_eq_true c8
                clear c8
                by_cases c9 : a0 ≤ 47
                · rw [if_pos c9] at H
                  have c9b0 : decide (a0 ≤ 47) = true := decide_eq_true c9
                  clear c9
                  obtain rfl := Option.some.inj H
                  go_wp2
                  go_ret
                  exact ⟨by first | rfl | (simp; done) | (simp [*]; done), by repeat (first | exact Drawn0.refl _ | apply Drawn0.step)⟩
                · rw [if_neg c9] at H
                  have c9b0 : decide (a0 ≤ 47) = false := decide_eq_false c9
                  clear c9
                  by_cases c10 : a0 ≥ 58
                  · rw [if_pos c10] at H
                    have c10b0 : decide (58 ≤ a0) = true := decide_eq_true c10
                    clear c10
                    by_cases c11 : a0 ≤ 64
                    · rw [if_pos c11] at H
                      have c11b0 : decide (a0 ≤ 64) = true := decide_eq_true c11
                      clear c11
                      obtain rfl := Option.some.inj H
                      go_wp2
                      go_ret
                      exact ⟨by first | rfl | (simp; done) | (simp [*]; done), by repeat (first | exact Drawn0.refl _ | apply Drawn0.step)⟩
                    · rw [if_neg c11] at H
                      have c11b0 : decide (a0 ≤ 64) = false := decide_eq_false c11
                      clear c11
                      by_cases c12 : a0 ≥ 91
                      · rw [if_pos c12] at H
                        have c12b0 : decide (91 ≤ a0) = true := decide_eq_true c12
                        clear c12
                        by_cases c13 : a0 ≤ 96
                        · rw [if_pos c13] at H
                          have c13b0 : decide (a0 ≤ 96) = true := decide_eq_true c13
                          clear c13
                          obtain rfl := Option.some.inj H
                          go_wp2
                          go_ret
                          exact ⟨by first | rfl | (simp; done) | (simp [*]; done), by repeat (first | exact Drawn0.refl _ | apply Drawn0.step)⟩
                        · rw [if_neg c13] at H
                          have c13b0 : decide (a0 ≤ 96) = false := decide_eq_false c13
                          clear c13
                          by_cases c14 : a0 ≥ 123
                          · rw [if_pos c14] at H
                            have c14b0 : decide (123 ≤ a0) = true := decide_eq_true c14
                            clear c14
                            by_cases c15 : a0 ≤ 126
                            · rw [if_pos c15] at H
                              have c15b0 : decide (a0 ≤ 126) = true := decide_eq_true c15
                              clear c15
                              obtain rfl := Option.some.inj H
                              go_wp2
                              go_ret
                              exact ⟨by first | rfl | (simp; done) | (simp [*]; done), by repeat (first | exact Drawn0.refl _ | apply Drawn0.step)⟩
                            · rw [if_neg c15] at H
                              have c15b0 : decide (a0 ≤ 126) = false := decide_eq_false c15
                              clear c15
                              obtain rfl := Option.some.inj H
                              go_wp2
                              go_ret
                              exact ⟨by first | rfl | (simp; done) | (simp [*]; done), by repeat (first | exact Drawn0.refl _ | apply Drawn0.step)⟩
                          · rw [if_neg c14] at H
                            have c14b0 : decide (123 ≤ a0) = false := decide_eq_false c14
                            clear c14
                            obtain rfl := Option.some.inj H
                            go_wp2
                            go_ret
                            exact ⟨by first | rfl | (simp; done) | (simp [*]; done), by repeat (first | exact Drawn0.refl _ | apply Drawn0.step)⟩
                      · rw [if_neg c12] at H
                        have c12b0 : decide (91 ≤ a0) = false := decide_eq_false c12
                        clear c12
                        by_cases c16 : a0 ≥ 123
                        · rw [if_pos c16] at H
                          have c16b0 : decide (123 ≤ a0) = true := decide_eq_true c16
                          clear c16
                          by_cases c17 : a0 ≤ 126
                          · rw [if_pos c17] at H
                            have c17b0 : decide (a0 ≤ 126) = true := decide_eq_true c17
                            clear c17
                            obtain rfl := Option.some.inj H
                            go_wp2
                            go_ret
                            exact ⟨by first | rfl | (simp; done) | (simp [*]; done), by repeat (first | exact Drawn0.refl _ | apply Drawn0.step)⟩
                          · rw [if_neg c17] at H
                            have c17b0 : decide (a0 ≤ 126) = false := decide_eq_false c17
                            clear c17
                            obtain rfl := Option.some.inj H
                            go_wp2
                            go_ret
                            exact ⟨by first | rfl | (simp; done) | (simp [*]; done), by repeat (first | exact Drawn0.refl _ | apply Drawn0.step)⟩
                        · rw [if_neg c16] at H
                          have c16b0 : decide (123 ≤ a0) = false := decide_eq_false c16
                          clear c16
                          obtain rfl := Option.some.inj H
                          go_wp2
                          go_ret
                          exact ⟨by first | rfl | (simp; done) | (simp [*]; done), by repeat (first | exact Drawn0.refl _ | apply Drawn0.step)⟩
                  · rw [if_neg c10] at H
                    have c10b0 : decide (58 ≤ a0) = false := decide_eq_false c10
                    clear c10
                    by_cases c18 : a0 ≥ 91
                    · rw [if_pos c18] at H
                      have c18b0 : decide (91 ≤ a0) = true := decide_eq_true c18
                      clear c18
                      by_cases c19 : a0 ≤ 96
                      · rw [if_pos c19] at H
                        have c19b0 : decide (a0 ≤ 96) = true := decide_eq_true c19
                        clear c19
                        obtain rfl := Option.some.inj H
                        go_wp2
                        go_ret
                        exact ⟨by first | rfl | (simp; done) | (simp [*]; done), by repeat (first | exact Drawn0.refl _ | apply Drawn0.step)⟩
                      · rw [if_neg c19] at H
                        have c19b0 : decide (a0 ≤ 96) = false := decide_eq_false c19
                        clear c19
                        by_cases c20 : a0 ≥ 123
                        · rw [if_pos c20] at H
                          have c20b0 : decide (123 ≤ a0) = true := decide_eq_true c20
                          clear c20
                          by_cases c21 : a0 ≤ 126
                          · rw [if_pos c21] at H
                            have c21b0 : decide (a0 ≤ 126) = true := decide_eq_true c21
                            clear c21
                            obtain rfl := Option.some.inj H
                            go_wp2
                            go_ret
                            exact ⟨by first | rfl | (simp; done) | (simp [*]; done), by repeat (first | exact Drawn0.refl _ | apply Drawn0.step)⟩
                          · rw [if_neg c21] at H
                            have c21b0 : decide (a0 ≤ 126) = false := decide_eq_false c21
                            clear c21
                            obtain rfl := Option.some.inj H
                            go_wp2
                            go_ret
                            exact ⟨by first | rfl | (simp; done) | (simp [*]; done), by repeat (first | exact Drawn0.refl _ | apply Drawn0.step)⟩
                        · rw [if_neg c20] at H
                          have c20b0 : decide (123 ≤ a0) = false := decide_eq_false c20
                          clear c20
                          obtain rfl := Option.some.inj H
                          go_wp2
                          go_ret
                          exact ⟨by first | rfl | (simp; done) | (simp [*]; done), by repeat (first | exact Drawn0.refl _ | apply Drawn0.step)⟩
                    · rw [if_neg c18] at H
                      have c18b0 : decide (91 ≤ a0) = false := decide_eq_false c18
                      clear c18
                      by_cases c22 : a0 ≥ 123
                      · rw [if_pos c22] at H
                        have c22b0 : decide (123 ≤ a0) = true := decide_eq_true c22
                        clear c22
                        by_cases c23 : a0 ≤ 126
                        · rw [if_pos c23] at H
                          have c23b0 : decide (a0 ≤ 126) = true := decide_eq_true c23
                          clear c23
                          obtain rfl := Option.some.inj H
                          go_wp2
                          go_ret
                          exact ⟨by first | rfl | (simp; done) | (simp [*]; done), by repeat (first | exact Drawn0.refl _ | apply Drawn0.step)⟩
                        · rw [if_neg c23] at H
                          have c23b0 : decide (a0 ≤ 126) = false := decide_eq_false c23
                          clear c23
                          obtain rfl := Option.some.inj H
                          go_wp2
                          go_ret
                          exact ⟨by first | rfl | (simp; done) | (simp [*]; done), by repeat (first | exact Drawn0.refl _ | apply Drawn0.step)⟩
                      · rw [if_neg c22] at H
                        have c22b0 : decide (123 ≤ a0) = false := decide_eq_false c22
                        clear c22
                        obtain rfl := Option.some.inj H
                        go_wp2
                        go_ret
                        exact ⟨by first | rfl | (simp; done) | (simp [*]; done), by repeat (first | exact Drawn0.refl _ | apply Drawn0.step)⟩
              · rw [if_neg c8] at H
                have c8b0 : decide (33 ≤ a0) = false := decide_eq_false c8
                clear c8
                by_cases c24 : a0 ≥ 58
                · rw [if_pos c24] at H
                  have c24b0 : decide (58 ≤ a0) = true := decide_eq_true c24
                  clear c24
                  by_cases c25 : a0 ≤ 64
                  · rw [if_pos c25] at H
                    have c25b0 : decide (a0 ≤ 64) = true := decide_eq_true c25
                    clear c25
                    obtain rfl := Option.some.inj H
                    go_wp2
                    go_ret
                    exact ⟨by first | rfl | (simp; done) | (simp [*]; done), by repeat (first | exact Drawn0.refl _ | apply Drawn0.step)⟩
                  · rw [if_neg c25] at H
                    have c25b0 : decide (a0 ≤ 64) = false := decide_eq_false c25
                    clear c25
                    by_cases c26 : a0 ≥ 91
                    · rw [if_pos c26] at H
                      have c26b0 : decide (91 ≤ a0) = true := decide_eq_true c26
                      clear c26
                      by_cases c27 : a0 ≤ 96
                      · rw [if_pos c27] at H
                        have c27b0 : decide (a0 ≤ 96) = true := decide_eq_true c27
                        clear c27
                        obtain rfl := Option.some.inj H
                        go_wp2
                        go_ret
                        exact ⟨by first | rfl | (simp; done) | (simp [*]; done), by repeat (first | exact Drawn0.refl _ | apply Drawn0.step)⟩
                      · rw [if_neg c27] at H
                        have c27b0 : decide (a0 ≤ 96) = false := decide_eq_false c27
                        clear c27
                        by_cases c28 : a0 ≥ 123
                        · rw [if_pos c28] at H
                          have c28b0 : decide (123 ≤ a0) = true := decide_eq_true c28
                          clear c28
                          by_cases c29 : a0 ≤ 126
                          · rw [if_pos c29] at H
                            have c29b0 : decide (a0 ≤ 126) = true := decide_eq_true c29
                            clear c29
                            obtain rfl := Option.some.inj H
                            go_wp2
                            go_ret
                            exact ⟨by first | rfl | (simp; done) | (simp [*]; done), by repeat (first | exact Drawn0.refl _ | apply Drawn0.step)⟩
                          · rw [if_neg c29] at H
                            have c29b0 : decide (a0 ≤ 126) = false := decide_eq_false c29
                            clear c29
                            obtain rfl := Option.some.inj H
                            go_wp2
                            go_ret
                            exact ⟨by first | rfl | (simp; done) | (simp [*]; done), by repeat (first | exact Drawn0.refl _ | apply Drawn0.step)⟩
                        · rw [if_neg c28] at H
                          have c28b0 : decide (123 ≤ a0) = false := decide_eq_false c28
                          clear c28
                          obtain rfl := Option.some.inj H
                          go_wp2
                          go_ret
                          exact ⟨by first | rfl | (simp; done) | (simp [*]; done), by repeat (first | exact Drawn0.refl _ | apply Drawn0.step)⟩
                    · rw [if_neg c26] at H
                      have c26b0 : decide (91 ≤ a0) = false := decide_eq_false c26
                      clear c26
                      by_cases c30 : a0 ≥ 123
                      · rw [if_pos c30] at H
                        have c30b0 : decide (123 ≤ a0) = true := decide_eq_true c30
                        clear c30
                        by_cases c31 : a0 ≤ 126
                        · rw [if_pos c31] at H
                          have c31b0 : decide (a0 ≤ 126) = true := decide_eq_true c31
                          clear c31
                          obtain rfl := Option.some.inj H
                          go_wp2
                          go_ret
                          exact ⟨by first | rfl | (simp; done) | (simp [*]; done), by repeat (first | exact Drawn0.refl _ | apply Drawn0.step)⟩
                        · rw [if_neg c31] at H
                          have c31b0 : decide (a0 ≤ 126) = false := decide_eq_false c31
                          clear c31
                          obtain rfl := Option.some.inj H
                          go_wp2
                          go_ret
                          exact ⟨by first | rfl | (simp; done) | (simp [*]; done), by repeat (first | exact Drawn0.refl _ | apply Drawn0.step)⟩
                      · rw [if_neg c30] at H
                        have c30b0 : decide (123 ≤ a0) = false := decide_eq_false c30
                        clear c30
                        obtain rfl := Option.some.inj H
                        go_wp2
                        go_ret
                        exact ⟨by first | rfl | (simp; done) | (simp [*]; done), by repeat (first | exact Drawn0.refl _ | apply Drawn0.step)⟩
                · rw [if_neg c24] at H
                  have c24b0 : decide (58 ≤ a0) = false := decide_eq_false c24
                  clear c24
                  by_cases c32 : a0 ≥ 91
                  · rw [if_pos c32] at H
                    have c32b0 : decide (91 ≤ a0) = true := decide_eq_true c32
                    clear c32
                    by_cases c33 : a0 ≤ 96
                    · rw [if_pos c33] at H
                      have c33b0 : decide (a0 ≤ 96) = true := decide_eq_true c33
                      clear c33
                      obtain rfl := Option.some.inj H
                      go_wp2
                      go_ret
                      exact ⟨by first | rfl | (simp; done) | (simp [*]; done), by repeat (first | exact Drawn0.refl _ | apply Drawn0.step)⟩
                    · rw [if_neg c33] at H
                      have c33b0 : decide (a0 ≤ 96) = false := decide_eq_false c33
                      clear c33
                      by_cases c34 : a0 ≥ 123
                      · rw [if_pos c34] at H
                        have c34b0 : decide (123 ≤ a0) = true := decide_eq_true c34
                        clear c34
                        by_cases c35 : a0 ≤ 126
                        · rw [if_pos c35] at H
                          have c35b0 : decide (a0 ≤ 126) = true := decide_eq_true c35
                          clear c35
                          obtain rfl := Option.some.inj H
                          go_wp2
                          go_ret
                          exact ⟨by first | rfl | (simp; done) | (simp [*]; done), by repeat (first | exact Drawn0.refl _ | apply Drawn0.step)⟩
                        · rw [if_neg c35] at H
                          have c35b0 : decide (a0 ≤ 126) = false := decide_eq_false c35
                          clear c35
                          obtain rfl := Option.some.inj H
                          go_wp2
                          go_ret
                          exact ⟨by first | rfl | (simp; done) | (simp [*]; done), by repeat (first | exact Drawn0.refl _ | apply Drawn0.step)⟩
                      · rw [if_neg c34] at H
                        have c34b0 : decide (123 ≤ a0) = false := decide_eq_false c34
                        clear c34
                        obtain rfl := Option.some.inj H
                        go_wp2
                        go_ret
                        exact ⟨by first | rfl | (simp; done) | (simp [*]; done), by repeat (first | exact Drawn0.refl _ | apply Drawn0.step)⟩
                  · rw [if_neg c32] at H
                    have c32b0 : decide (91 ≤ a0) = false := decide_eq_false c32
                    clear c32
                    by_cases c36 : a0 ≥ 123
                    · rw [if_pos c36] at H
                      have c36b0 : decide (123 ≤ a0) = true := decide_eq_true c36
                      clear c36
                      by_cases c37 : a0 ≤ 126
                      · rw [if_pos c37] at H
                        have c37b0 : decide (a0 ≤ 126) = true := decide_eq_true c37
                        clear c37
                        obtain rfl := Option.some.inj H
                        go_wp2
                        go_ret
                        exact ⟨by first | rfl | (simp; done) | (simp [*]; done), by repeat (first | exact Drawn0.refl _ | apply Drawn0.step)⟩
                      · rw [if_neg c37] at H
                        have c37b0 : decide (a0 ≤ 126) = false := decide_eq_false c37
                        clear c37
                        obtain rfl := Option.some.inj H
                        go_wp2
                        go_ret
                        exact ⟨by first | rfl | (simp; done) | (simp [*]; done), by repeat (first | exact Drawn0.refl _ | apply Drawn0.step)⟩
                    · rw [if_neg c36] at H
                      have c36b0 : decide (123 ≤ a0) = false := decide_eq_false c36
                      clear c36
                      obtain rfl := Option.some.inj H
                      go_wp2
                      go_ret
                      exact ⟨by first | rfl | (simp; done) | (simp [*]; done), by repeat (first | exact Drawn0.refl _ | apply Drawn0.step)⟩

end Go.Proofs.Ytlkgdfeeepiidaa.All
