-- Made by a program of this session (wip/mk.py) over the kit's printing program; Lean checks it.
import Derived.Test.YtlkgdfeeepiidaaF0
namespace Go.Proofs.Ytlkgdfeeepiidaa.All
open Go.RowKit Go.Proofs.YtlkgdfeeepiidaaW.PrintWords Go.Proofs.YtlkgdfeeepiidaaW.PrintLast Go.Proofs.YtlkgdfeeepiidaaW.PrintMore
attribute [local go_sem] max2_int min2_int max_two min_two max_three min_three max_four min_four   -- for this text's walks alone
set_option linter.unusedVariables false
set_option linter.unusedSimpArgs false

/-! ### emendationlaw04_common: function 43 -/
def emendationlaw04_common.l0 : Nat → List Int → List Int → List (S55) → Int → Int → Option (Bool)
  | 0, _, _, _, _, _ => none
  | k + 1, x0, x1, x2, x11, x12 => if x12 < x11 then (if 0 ≤ x12 then (if x12 < (x2.length : Int) then (if ((rd_T55 x2 x12).f0) < 0 then (some false) else (if ((rd_T55 x2 x12).f0) ≥ (x0.length : Int) then (some false) else (if ((rd_T55 x2 x12).f1) < 0 then (some false) else (if ((rd_T55 x2 x12).f1) ≥ (x1.length : Int) then (some false) else (if 0 ≤ ((rd_T55 x2 x12).f0) then (if ((rd_T55 x2 x12).f0) < (x0.length : Int) then (if 0 ≤ ((rd_T55 x2 x12).f1) then (if ((rd_T55 x2 x12).f1) < (x1.length : Int) then (if (rd x0 ((rd_T55 x2 x12).f0)) = (rd x1 ((rd_T55 x2 x12).f1)) then (if x12 > 0 then (if 0 ≤ (wrap64 (x12 - 1)) then (if (wrap64 (x12 - 1)) < (x2.length : Int) then (if ((rd_T55 x2 (wrap64 (x12 - 1))).f0) ≥ ((rd_T55 x2 x12).f0) then (some false) else (if ((rd_T55 x2 (wrap64 (x12 - 1))).f1) ≥ ((rd_T55 x2 x12).f1) then (some false) else (emendationlaw04_common.l0 k x0 x1 x2 x11 (wrap64 (x12 + 1))))) else (none)) else (none)) else (emendationlaw04_common.l0 k x0 x1 x2 x11 (wrap64 (x12 + 1)))) else (some false)) else (none)) else (none)) else (none)) else (none)))))) else (none)) else (none)) else (some true)
def emendationlaw04_common.f (k : Nat) (l0 : List Int) (l1 : List Int) (l2 : List (S55)) : Option (Bool) := emendationlaw04_common.l0 k l0 l1 l2 (l2.length : Int) 0
theorem emendationlaw04_common.mono_l : ∀ k, (∀ y0 y1 y2 y3 y4, LeO (emendationlaw04_common.l0 k y0 y1 y2 y3 y4) (emendationlaw04_common.l0 (k + 1) y0 y1 y2 y3 y4))
  | 0 => fun _ _ _ _ _ r h => by simp [emendationlaw04_common.l0] at h
  | k + 1 => by
    have ih0 := emendationlaw04_common.mono_l k
    · intro y0 y1 y2 y3 y4
      unfold emendationlaw04_common.l0
      repeat' first
      | (with_reducible exact ih0 _ _ _ _ _)
      | (with_reducible exact LeO.refl _)
      | (with_reducible exact LeO.none _)
      | (with_reducible refine LeO.ite ?_ ?_)
      | (with_reducible refine LeO.bind ?_ (fun _ => ?_))
      | exact ih0 _ _ _ _ _
      | exact LeO.none _
      | refine LeO.ite ?_ ?_
      | refine LeO.bind ?_ (fun _ => ?_)
theorem emendationlaw04_common.mono : ∀ a0 a1 a2 k, LeO (emendationlaw04_common.f k a0 a1 a2) (emendationlaw04_common.f (k + 1) a0 a1 a2) := by
  intro a0 a1 a2 k
  have ih0 := emendationlaw04_common.mono_l k
  unfold emendationlaw04_common.f
  repeat' first
      | (with_reducible exact ih0 _ _ _ _ _)
      | (with_reducible exact LeO.refl _)
      | (with_reducible exact LeO.none _)
      | (with_reducible refine LeO.ite ?_ ?_)
      | (with_reducible refine LeO.bind ?_ (fun _ => ?_))
      | exact ih0 _ _ _ _ _
      | exact LeO.none _
      | refine LeO.ite ?_ ?_
      | refine LeO.bind ?_ (fun _ => ?_)
set_option maxHeartbeats 8000000 in
set_option maxRecDepth 100000 in
theorem emendationlaw04_common.calls (k : Nat) (A0 : Option Addr) (c0 : Nat) (l0 : List Int) (A1 : Option Addr) (c1 : Nat) (l1 : List Int) (A2 : Option Addr) (c2 : Nat) (l2 : List (S55)) (r : Bool) (w : World) (hr0 : Kd.C (Kd.int .i64) w A0 l0.length l0) (hc0 : l0.length ≤ c0) (hr1 : Kd.C (Kd.int .i64) w A1 l1.length l1) (hc1 : l1.length ≤ c1) (hr2 : Kd.C k55 w A2 l2.length l2) (hc2 : l2.length ≤ c2) (h : emendationlaw04_common.f k l0 l1 l2 = some r) :
    Calls Try.prog 43 #[.slice A0 l0.length c0, .slice A1 l1.length c1, .slice A2 l2.length c2] w fun e w' => e = .returned (.bool r) ∧ Drawn0 w w' := by
  have HR0 := Aside0.mk hr0
  have HC0 := Aside0.mk hc0
  clear hr0 hc0
  have HR1 := Aside0.mk hr1
  have HC1 := Aside0.mk hc1
  clear hr1 hc1
  have HR2 := Aside0.mk hr2
  have HC2 := Aside0.mk hc2
  clear hr2 hc2
  have H : (emendationlaw04_common.l0 k l0 l1 l2 (l2.length : Int) 0) = some r := h
  clear h
  have H' := Aside0.mk H
  clear H
  go_enter Try.func43, Try.ntmps43
  go_wp2
  repeat (go_quiet (fail); try go_wp2)
  go_loopg [12] k (fun kq v12 w' => ∃ (x12_1 : Int), v12 = .int .i64 x12_1 ∧ Aside0 (emendationlaw04_common.l0 kq l0 l1 l2 (l2.length : Int) x12_1 = some r) ∧ Aside0 (kq ≤ k) ∧ Drawn0 w w')
  case atStart => exact ⟨(0), (by first | rfl | (simp; done) | (simp [*]; done)), H', ⟨Nat.le_refl _⟩, by repeat (first | exact Drawn0.refl _ | apply Drawn0.step)⟩
  case round =>
    clear H'
    try clear c1
    try clear c2
    try clear p2
    obtain ⟨x12_1, rfl, HA, HK1, ⟨m1, rfl⟩⟩ := hrel
    cases gk with
    | zero => exact absurd HA.out (by simp [emendationlaw04_common.l0])
    | succ k1 =>
      have H := HA.out
      clear HA
      simp only [emendationlaw04_common.l0] at H
      by_cases c4 : x12_1 < (l2.length : Int)
      · rw [if_pos c4] at H
        have c4b0 : decide (x12_1 < (l2.length : Int)) = true := decide_eq_true c4
        clear c4
        by_cases c5 : 0 ≤ x12_1
        · rw [if_pos c5] at H
          have c5b0 : decide (0 ≤ x12_1) = true := decide_eq_true c5
          clear c5
          by_cases c6 : x12_1 < (l2.length : Int)
          · rw [if_pos c6] at H
            have c6b0 : decide (x12_1 < (l2.length : Int)) = true := decide_eq_true c6
            clear c6
            by_cases c7 : ((rd_T55 l2 x12_1).f0) < 0
            · rw [if_pos c7] at H
              have c7b0 : decide (((rd_T55 l2 x12_1).f0) < 0) = true := decide_eq_true c7
              clear c7
              obtain rfl := Option.some.inj H
              have p101 : 0 ≤ (x12_1 : Int) := of_decide_eq_true (by first | (with_reducible assumption) | assumption)
              have q101 : x12_1 < (l2.length : Int) := of_decide_eq_true (by first | (with_reducible assumption) | assumption)
              obtain ⟨ad101, e101, hx101_0, hx101_1⟩ := at_T55 HR2.out x12_1 p101 q101
              cases e101
              replace p101 := eq_true p101
              replace q101 := eq_true q101
              have p102 : 0 ≤ (x12_1 : Int) := of_decide_eq_true (by first | (with_reducible assumption) | assumption)
              have q102 : x12_1 < (l2.length : Int) := of_decide_eq_true (by first | (with_reducible assumption) | assumption)
              obtain ⟨ad102, e102, hx102_0, hx102_1⟩ := at_T55 HR2.out x12_1 p102 q102
              obtain rfl : ad101 = ad102 := (by injection e102)
              replace p102 := eq_true p102
              replace q102 := eq_true q102
              go_wp2
              repeat (go_quiet (fail); try go_wp2)
              go_ret
              exact ⟨by first | rfl | (simp; done) | (simp [*]; done), by repeat (first | exact Drawn0.refl _ | apply Drawn0.step)⟩
            · rw [if_neg c7] at H
              have c7b0 : decide (((rd_T55 l2 x12_1).f0) < 0) = false := decide_eq_false c7
              clear c7
              by_cases c8 : ((rd_T55 l2 x12_1).f0) ≥ (l0.length : Int)
              · rw [if_pos c8] at H
                have c8b0 : decide ((l0.length : Int) ≤ ((rd_T55 l2 x12_1).f0)) = true := decide_eq_true c8
                clear c8
                obtain rfl := Option.some.inj H
                have p101 : 0 ≤ (x12_1 : Int) := of_decide_eq_true (by first | (with_reducible assumption) | assumption)
                have q101 : x12_1 < (l2.length : Int) := of_decide_eq_true (by first | (with_reducible assumption) | assumption)
                obtain ⟨ad101, e101, hx101_0, hx101_1⟩ := at_T55 HR2.out x12_1 p101 q101
                cases e101
                replace p101 := eq_true p101
                replace q101 := eq_true q101
                have p102 : 0 ≤ (x12_1 : Int) := of_decide_eq_true (by first | (with_reducible assumption) | assumption)
                have q102 : x12_1 < (l2.length : Int) := of_decide_eq_true (by first | (with_reducible assumption) | assumption)
                obtain ⟨ad102, e102, hx102_0, hx102_1⟩ := at_T55 HR2.out x12_1 p102 q102
                obtain rfl : ad101 = ad102 := (by injection e102)
                replace p102 := eq_true p102
                replace q102 := eq_true q102
                go_wp2
                repeat (go_quiet (fail); try go_wp2)
                go_ret
                exact ⟨by first | rfl | (simp; done) | (simp [*]; done), by repeat (first | exact Drawn0.refl _ | apply Drawn0.step)⟩
              · rw [if_neg c8] at H
                have c8b0 : decide ((l0.length : Int) ≤ ((rd_T55 l2 x12_1).f0)) = false := decide_eq_false c8
                clear c8
                by_cases c9 : ((rd_T55 l2 x12_1).f1) < 0
                · rw [if_pos c9] at H
                  have c9b0 : decide (((rd_T55 l2 x12_1).f1) < 0) = true := decide_eq_true c9
                  clear c9
                  obtain rfl := Option.some.inj H
                  have p101 : 0 ≤ (x12_1 : Int) := of_decide_eq_true (by first | (with_reducible assumption) | assumption)
                  have q101 : x12_1 < (l2.length : Int) := of_decide_eq_true (by first | (with_reducible assumption) | assumption)
                  obtain ⟨ad101, e101, hx101_0, hx101_1⟩ := at_T55 HR2.out x12_1 p101 q101
                  cases e101
                  replace p101 := eq_true p101
                  replace q101 := eq_true q101
                  have p102 : 0 ≤ (x12_1 : Int) := of_decide_eq_true (by first | (with_reducible assumption) | assumption)
                  have q102 : x12_1 < (l2.length : Int) := of_decide_eq_true (by first | (with_reducible assumption) | assumption)
                  obtain ⟨ad102, e102, hx102_0, hx102_1⟩ := at_T55 HR2.out x12_1 p102 q102
                  obtain rfl : ad101 = ad102 := (by injection e102)
                  replace p102 := eq_true p102
                  replace q102 := eq_true q102
                  go_wp2
                  repeat (go_quiet (fail); try go_wp2)
                  go_ret
                  exact ⟨by first | rfl | (simp; done) | (simp [*]; done), by repeat (first | exact Drawn0.refl _ | apply Drawn0.step)⟩
                · rw [if_neg c9] at H
                  have c9b0 : decide (((rd_T55 l2 x12_1).f1) < 0) = false := decide_eq_false c9
                  clear c9
                  by_cases c10 : ((rd_T55 l2 x12_1).f1) ≥ (l1.length : Int)
                  · rw [if_pos c10] at H
                    have c10b0 : decide ((l1.length : Int) ≤ ((rd_T55 l2 x12_1).f1)) = true := decide_eq_true c10
                    clear c10
                    obtain rfl := Option.some.inj H
                    have p101 : 0 ≤ (x12_1 : Int) := of_decide_eq_true (by first | (with_reducible assumption) | assumption)
                    have q101 : x12_1 < (l2.length : Int) := of_decide_eq_true (by first | (with_reducible assumption) | assumption)
                    obtain ⟨ad101, e101, hx101_0, hx101_1⟩ := at_T55 HR2.out x12_1 p101 q101
                    cases e101
                    replace p101 := eq_true p101
                    replace q101 := eq_true q101
                    have p102 : 0 ≤ (x12_1 : Int) := of_decide_eq_true (by first | (with_reducible assumption) | assumption)
                    have q102 : x12_1 < (l2.length : Int) := of_decide_eq_true (by first | (with_reducible assumption) | assumption)
                    obtain ⟨ad102, e102, hx102_0, hx102_1⟩ := at_T55 HR2.out x12_1 p102 q102
                    obtain rfl : ad101 = ad102 := (by injection e102)
                    replace p102 := eq_true p102
                    replace q102 := eq_true q102
                    go_wp2
                    repeat (go_quiet (fail); try go_wp2)
                    go_ret
                    exact ⟨by first | rfl | (simp; done) | (simp [*]; done), by repeat (first | exact Drawn0.refl _ | apply Drawn0.step)⟩
                  · rw [if_neg c10] at H
                    have c10b0 : decide ((l1.length : Int) ≤ ((rd_T55 l2 x12_1).f1)) = false := decide_eq_false c10
                    clear c10
                    by_cases c11 : 0 ≤ ((rd_T55 l2 x12_1).f0)
                    · rw [if_pos c11] at H
                      have c11b0 : decide (0 ≤ ((rd_T55 l2 x12_1).f0)) = true := decide_eq_true c11
                      clear c11
                      by_cases c12 : ((rd_T55 l2 x12_1).f0) < (l0.length : Int)
                      · rw [if_pos c12] at H
                        have c12b0 : decide (((rd_T55 l2 x12_1).f0) < (l0.length : Int)) = true := decide_eq_true c12
                        clear c12
                        by_cases c13 : 0 ≤ ((rd_T55 l2 x12_1).f1)
                        · rw [if_pos c13] at H
                          have c13b0 : decide (0 ≤ ((rd_T55 l2 x12_1).f1)) = true := decide_eq_true c13
                          clear c13
                          by_cases c14 : ((rd_T55 l2 x12_1).f1) < (l1.length : Int)
                          · rw [if_pos c14] at H
                            have c14b0 : decide (((rd_T55 l2 x12_1).f1) < (l1.length : Int)) = true := decide_eq_true c14
                            clear c14
                            by_cases c15 : (rd l0 ((rd_T55 l2 x12_1).f0)) = (rd l1 ((rd_T55 l2 x12_1).f1))
                            · rw [if_pos c15] at H
                              have c15b0 : ((rd l0 ((rd_T55 l2 x12_1).f0)) == (rd l1 ((rd_T55 l2 x12_1).f1))) = true := beq_iff_eq.mpr c15
                              have c15b1 : ((rd l0 ((rd_T55 l2 x12_1).f0)) != (rd l1 ((rd_T55 l2 x12_1).f1))) = false := bne_eq_false_iff_eq.mpr c15
                              clear c15
                              by_cases c16 : x12_1 > 0
                              · rw [if_pos c16] at H
                                have c16b0 : decide (0 < x12_1) = true := decide_eq_true c16
                                clear c16
                                obtain ⟨ji17, hji17⟩ : ∃ j_ : Int, (wrap64 (x12_1 - 1)) = j_ := ⟨_, rfl⟩
                                replace H : (if 0 ≤ (ji17) then (if (ji17) < (l2.length : Int) then (if ((rd_T55 l2 (ji17)).f0) ≥ ((rd_T55 l2 x12_1).f0) then (some false) else (if ((rd_T55 l2 (ji17)).f1) ≥ ((rd_T55 l2 x12_1).f1) then (some false) else (emendationlaw04_common.l0 k1 l0 l1 l2 (l2.length : Int) (wrap64 (x12_1 + 1))))) else (none)) else (none)) = some r := by first | (rw [hji17] at H; exact H) | (simp only [hji17] at H ⊢; exact H)
                                have hji17w : (IntKind.i64.wrap (x12_1 - 1)) = ji17 := (i64_w _).trans hji17
                                by_cases c18 : 0 ≤ (ji17)
                                · rw [if_pos c18] at H
                                  have c18b0 : decide (0 ≤ (ji17)) = true := decide_eq_true c18
                                  clear c18
                                  by_cases c19 : (ji17) < (l2.length : Int)
                                  · rw [if_pos c19] at H
                                    have c19b0 : decide ((ji17) < (l2.length : Int)) = true := decide_eq_true c19
                                    clear c19
                                    by_cases c20 : ((rd_T55 l2 (ji17)).f0) ≥ ((rd_T55 l2 x12_1).f0)
                                    · rw [if_pos c20] at H
                                      have c20b0 : decide (((rd_T55 l2 x12_1).f0) ≤ ((rd_T55 l2 (ji17)).f0)) = true := decide_eq_true c20
                                      clear c20
                                      obtain rfl := Option.some.inj H
                                      have p101 : 0 ≤ (x12_1 : Int) := of_decide_eq_true (by first | (with_reducible assumption) | assumption)
                                      have q101 : x12_1 < (l2.length : Int) := of_decide_eq_true (by first | (with_reducible assumption) | assumption)
                                      obtain ⟨ad101, e101, hx101_0, hx101_1⟩ := at_T55 HR2.out x12_1 p101 q101
                                      cases e101
                                      replace p101 := eq_true p101
                                      replace q101 := eq_true q101
                                      have p102 : 0 ≤ (x12_1 : Int) := of_decide_eq_true (by first | (with_reducible assumption) | assumption)
                                      have q102 : x12_1 < (l2.length : Int) := of_decide_eq_true (by first | (with_reducible assumption) | assumption)
                                      obtain ⟨ad102, e102, hx102_0, hx102_1⟩ := at_T55 HR2.out x12_1 p102 q102
                                      obtain rfl : ad101 = ad102 := (by injection e102)
                                      replace p102 := eq_true p102
                                      replace q102 := eq_true q102
                                      have p103 : 0 ≤ (((rd_T55 l2 x12_1).f0) : Int) := of_decide_eq_true (by first | (with_reducible assumption) | assumption)
                                      have q103 : ((rd_T55 l2 x12_1).f0) < (l0.length : Int) := of_decide_eq_true (by first | (with_reducible assumption) | assumption)
                                      obtain ⟨ad103, e103, hx103_0⟩ := Kd.at_int HR0.out ((rd_T55 l2 x12_1).f0) p103 q103
                                      cases e103
                                      replace p103 := eq_true p103
                                      replace q103 := eq_true q103
                                      have p104 : 0 ≤ (((rd_T55 l2 x12_1).f1) : Int) := of_decide_eq_true (by first | (with_reducible assumption) | assumption)
                                      have q104 : ((rd_T55 l2 x12_1).f1) < (l1.length : Int) := of_decide_eq_true (by first | (with_reducible assumption) | assumption)
                                      obtain ⟨ad104, e104, hx104_0⟩ := Kd.at_int HR1.out ((rd_T55 l2 x12_1).f1) p104 q104
                                      cases e104
                                      replace p104 := eq_true p104
                                      replace q104 := eq_true q104
                                      have p105 : 0 ≤ ((ji17) : Int) := of_decide_eq_true (by first | (with_reducible assumption) | assumption)
                                      have q105 : (ji17) < (l2.length : Int) := of_decide_eq_true (by first | (with_reducible assumption) | assumption)
                                      obtain ⟨ad105, e105, hx105_0, hx105_1⟩ := at_T55 HR2.out (ji17) p105 q105
                                      obtain rfl : ad101 = ad105 := (by injection e105)
                                      replace p105 := eq_true p105
                                      replace q105 := eq_true q105
                                      go_wp2
                                      repeat (go_quiet (fail); try go_wp2)
                                      go_ret
                                      exact ⟨by first | rfl | (simp; done) | (simp only [← hji17] <;> (first | rfl | simp)) | (simp [*]; done), by repeat (first | exact Drawn0.refl _ | apply Drawn0.step)⟩
                                    · rw [if_neg c20] at H
                                      have c20b0 : decide (((rd_T55 l2 x12_1).f0) ≤ ((rd_T55 l2 (ji17)).f0)) = false := decide_eq_false c20
                                      clear c20
                                      by_cases c21 : ((rd_T55 l2 (ji17)).f1) ≥ ((rd_T55 l2 x12_1).f1)
                                      · rw [if_pos c21] at H
                                        have c21b0 : decide (((rd_T55 l2 x12_1).f1) ≤ ((rd_T55 l2 (ji17)).f1)) = true := decide_eq_true c21
                                        clear c21
                                        obtain rfl := Option.some.inj H
                                        have p101 : 0 ≤ (x12_1 : Int) := of_decide_eq_true (by first | (with_reducible assumption) | assumption)
                                        have q101 : x12_1 < (l2.length : Int) := of_decide_eq_true (by first | (with_reducible assumption) | assumption)
                                        obtain ⟨ad101, e101, hx101_0, hx101_1⟩ := at_T55 HR2.out x12_1 p101 q101
                                        cases e101
                                        replace p101 := eq_true p101
                                        replace q101 := eq_true q101
                                        have p102 : 0 ≤ (x12_1 : Int) := of_decide_eq_true (by first | (with_reducible assumption) | assumption)
                                        have q102 : x12_1 < (l2.length : Int) := of_decide_eq_true (by first | (with_reducible assumption) | assumption)
                                        obtain ⟨ad102, e102, hx102_0, hx102_1⟩ := at_T55 HR2.out x12_1 p102 q102
                                        obtain rfl : ad101 = ad102 := (by injection e102)
                                        replace p102 := eq_true p102
                                        replace q102 := eq_true q102
                                        have p103 : 0 ≤ (((rd_T55 l2 x12_1).f0) : Int) := of_decide_eq_true (by first | (with_reducible assumption) | assumption)
                                        have q103 : ((rd_T55 l2 x12_1).f0) < (l0.length : Int) := of_decide_eq_true (by first | (with_reducible assumption) | assumption)
                                        obtain ⟨ad103, e103, hx103_0⟩ := Kd.at_int HR0.out ((rd_T55 l2 x12_1).f0) p103 q103
                                        cases e103
                                        replace p103 := eq_true p103
                                        replace q103 := eq_true q103
                                        have p104 : 0 ≤ (((rd_T55 l2 x12_1).f1) : Int) := of_decide_eq_true (by first | (with_reducible assumption) | assumption)
                                        have q104 : ((rd_T55 l2 x12_1).f1) < (l1.length : Int) := of_decide_eq_true (by first | (with_reducible assumption) | assumption)
                                        obtain ⟨ad104, e104, hx104_0⟩ := Kd.at_int HR1.out ((rd_T55 l2 x12_1).f1) p104 q104
                                        cases e104
                                        replace p104 := eq_true p104
                                        replace q104 := eq_true q104
                                        have p105 : 0 ≤ ((ji17) : Int) := of_decide_eq_true (by first | (with_reducible assumption) | assumption)
                                        have q105 : (ji17) < (l2.length : Int) := of_decide_eq_true (by first | (with_reducible assumption) | assumption)
                                        obtain ⟨ad105, e105, hx105_0, hx105_1⟩ := at_T55 HR2.out (ji17) p105 q105
                                        obtain rfl : ad101 = ad105 := (by injection e105)
                                        replace p105 := eq_true p105
                                        replace q105 := eq_true q105
                                        have p106 : 0 ≤ ((ji17) : Int) := of_decide_eq_true (by first | (with_reducible assumption) | assumption)
                                        have q106 : (ji17) < (l2.length : Int) := of_decide_eq_true (by first | (with_reducible assumption) | assumption)
                                        obtain ⟨ad106, e106, hx106_0, hx106_1⟩ := at_T55 HR2.out (ji17) p106 q106
                                        obtain rfl : ad101 = ad106 := (by injection e106)
                                        replace p106 := eq_true p106
                                        replace q106 := eq_true q106
                                        go_wp2
                                        repeat (go_quiet (fail); try go_wp2)
                                        go_ret
                                        exact ⟨by first | rfl | (simp; done) | (simp only [← hji17] <;> (first | rfl | simp)) | (simp [*]; done), by repeat (first | exact Drawn0.refl _ | apply Drawn0.step)⟩
                                      · rw [if_neg c21] at H
                                        have c21b0 : decide (((rd_T55 l2 x12_1).f1) ≤ ((rd_T55 l2 (ji17)).f1)) = false := decide_eq_false c21
                                        clear c21
                                        have H' := Aside0.mk H
                                        clear H
                                        have p101 : 0 ≤ (x12_1 : Int) := of_decide_eq_true (by first | (with_reducible assumption) | assumption)
                                        have q101 : x12_1 < (l2.length : Int) := of_decide_eq_true (by first | (with_reducible assumption) | assumption)
                                        obtain ⟨ad101, e101, hx101_0, hx101_1⟩ := at_T55 HR2.out x12_1 p101 q101
                                        cases e101
                                        replace p101 := eq_true p101
                                        replace q101 := eq_true q101
                                        have p102 : 0 ≤ (x12_1 : Int) := of_decide_eq_true (by first | (with_reducible assumption) | assumption)
                                        have q102 : x12_1 < (l2.length : Int) := of_decide_eq_true (by first | (with_reducible assumption) | assumption)
                                        obtain ⟨ad102, e102, hx102_0, hx102_1⟩ := at_T55 HR2.out x12_1 p102 q102
                                        obtain rfl : ad101 = ad102 := (by injection e102)
                                        replace p102 := eq_true p102
                                        replace q102 := eq_true q102
                                        have p103 : 0 ≤ (((rd_T55 l2 x12_1).f0) : Int) := of_decide_eq_true (by first | (with_reducible assumption) | assumption)
                                        have q103 : ((rd_T55 l2 x12_1).f0) < (l0.length : Int) := of_decide_eq_true (by first | (with_reducible assumption) | assumption)
                                        obtain ⟨ad103, e103, hx103_0⟩ := Kd.at_int HR0.out ((rd_T55 l2 x12_1).f0) p103 q103
                                        cases e103
                                        replace p103 := eq_true p103
                                        replace q103 := eq_true q103
                                        have p104 : 0 ≤ (((rd_T55 l2 x12_1).f1) : Int) := of_decide_eq_true (by first | (with_reducible assumption) | assumption)
                                        have q104 : ((rd_T55 l2 x12_1).f1) < (l1.length : Int) := of_decide_eq_true (by first | (with_reducible assumption) | assumption)
                                        obtain ⟨ad104, e104, hx104_0⟩ := Kd.at_int HR1.out ((rd_T55 l2 x12_1).f1) p104 q104
                                        cases e104
                                        replace p104 := eq_true p104
                                        replace q104 := eq_true q104
                                        have p105 : 0 ≤ ((ji17) : Int) := of_decide_eq_true (by first | (with_reducible assumption) | assumption)
                                        have q105 : (ji17) < (l2.length : Int) := of_decide_eq_true (by first | (with_reducible assumption) | assumption)
                                        obtain ⟨ad105, e105, hx105_0, hx105_1⟩ := at_T55 HR2.out (ji17) p105 q105
                                        obtain rfl : ad101 = ad105 := (by injection e105)
                                        replace p105 := eq_true p105
                                        replace q105 := eq_true q105
                                        have p106 : 0 ≤ ((ji17) : Int) := of_decide_eq_true (by first | (with_reducible assumption) | assumption)
                                        have q106 : (ji17) < (l2.length : Int) := of_decide_eq_true (by first | (with_reducible assumption) | assumption)
                                        obtain ⟨ad106, e106, hx106_0, hx106_1⟩ := at_T55 HR2.out (ji17) p106 q106
                                        obtain rfl : ad101 = ad106 := (by injection e106)
                                        replace p106 := eq_true p106
                                        replace q106 := eq_true q106
                                        go_wp2
                                        repeat (go_quiet (fail); try go_wp2)
                                        go_roundg k1
                                        case measure => have := HK1.out; omega
                                        case rel => exact ⟨(wrap64 (x12_1 + 1)), (by first | rfl | (simp; done) | (simp [*]; done)), H', ⟨by have := HK1.out; omega⟩, by repeat (first | exact Drawn0.refl _ | apply Drawn0.step)⟩
                                  · rw [if_neg c19] at H
                                    exact absurd H (by simp)
                                · rw [if_neg c18] at H
                                  exact absurd H (by simp)
                              · rw [if_neg c16] at H
                                have c16b0 : decide (0 < x12_1) = false := decide_eq_false c16
                                clear c16
                                have H' := Aside0.mk H
                                clear H
                                have p101 : 0 ≤ (x12_1 : Int) := of_decide_eq_true (by first | (with_reducible assumption) | assumption)
                                have q101 : x12_1 < (l2.length : Int) := of_decide_eq_true (by first | (with_reducible assumption) | assumption)
                                obtain ⟨ad101, e101, hx101_0, hx101_1⟩ := at_T55 HR2.out x12_1 p101 q101
                                cases e101
                                replace p101 := eq_true p101
                                replace q101 := eq_true q101
                                have p102 : 0 ≤ (x12_1 : Int) := of_decide_eq_true (by first | (with_reducible assumption) | assumption)
                                have q102 : x12_1 < (l2.length : Int) := of_decide_eq_true (by first | (with_reducible assumption) | assumption)
                                obtain ⟨ad102, e102, hx102_0, hx102_1⟩ := at_T55 HR2.out x12_1 p102 q102
                                obtain rfl : ad101 = ad102 := (by injection e102)
                                replace p102 := eq_true p102
                                replace q102 := eq_true q102
                                have p103 : 0 ≤ (((rd_T55 l2 x12_1).f0) : Int) := of_decide_eq_true (by first | (with_reducible assumption) | assumption)
                                have q103 : ((rd_T55 l2 x12_1).f0) < (l0.length : Int) := of_decide_eq_true (by first | (with_reducible assumption) | assumption)
                                obtain ⟨ad103, e103, hx103_0⟩ := Kd.at_int HR0.out ((rd_T55 l2 x12_1).f0) p103 q103
                                cases e103
                                replace p103 := eq_true p103
                                replace q103 := eq_true q103
                                have p104 : 0 ≤ (((rd_T55 l2 x12_1).f1) : Int) := of_decide_eq_true (by first | (with_reducible assumption) | assumption)
                                have q104 : ((rd_T55 l2 x12_1).f1) < (l1.length : Int) := of_decide_eq_true (by first | (with_reducible assumption) | assumption)
                                obtain ⟨ad104, e104, hx104_0⟩ := Kd.at_int HR1.out ((rd_T55 l2 x12_1).f1) p104 q104
                                cases e104
                                replace p104 := eq_true p104
                                replace q104 := eq_true q104
                                go_wp2
                                repeat (go_quiet (fail); try go_wp2)
                                go_roundg k1
                                case measure => have := HK1.out; omega
                                case rel => exact ⟨(wrap64 (x12_1 + 1)), (by first | rfl | (simp; done) | (simp [*]; done)), H', ⟨by have := HK1.out; omega⟩, by repeat (first | exact Drawn0.refl _ | apply Drawn0.step)⟩
                            · rw [if_neg c15] at H
                              have c15b0 : ((rd l0 ((rd_T55 l2 x12_1).f0)) == (rd l1 ((rd_T55 l2 x12_1).f1))) = false := beq_eq_false_iff_ne.mpr c15
                              have c15b1 : ((rd l0 ((rd_T55 l2 x12_1).f0)) != (rd l1 ((rd_T55 l2 x12_1).f1))) = true := bne_iff_ne.mpr c15
                              obtain rfl := Option.some.inj H
                              have p101 : 0 ≤ (x12_1 : Int) := of_decide_eq_true (by first | (with_reducible assumption) | assumption)
                              have q101 : x12_1 < (l2.length : Int) := of_decide_eq_true (by first | (with_reducible assumption) | assumption)
                              obtain ⟨ad101, e101, hx101_0, hx101_1⟩ := at_T55 HR2.out x12_1 p101 q101
                              cases e101
                              replace p101 := eq_true p101
                              replace q101 := eq_true q101
                              have p102 : 0 ≤ (x12_1 : Int) := of_decide_eq_true (by first | (with_reducible assumption) | assumption)
                              have q102 : x12_1 < (l2.length : Int) := of_decide_eq_true (by first | (with_reducible assumption) | assumption)
                              obtain ⟨ad102, e102, hx102_0, hx102_1⟩ := at_T55 HR2.out x12_1 p102 q102
                              obtain rfl : ad101 = ad102 := (by injection e102)
                              replace p102 := eq_true p102
                              replace q102 := eq_true q102
                              have p103 : 0 ≤ (((rd_T55 l2 x12_1).f0) : Int) := of_decide_eq_true (by first | (with_reducible assumption) | assumption)
                              have q103 : ((rd_T55 l2 x12_1).f0) < (l0.length : Int) := of_decide_eq_true (by first | (with_reducible assumption) | assumption)
                              obtain ⟨ad103, e103, hx103_0⟩ := Kd.at_int HR0.out ((rd_T55 l2 x12_1).f0) p103 q103
                              cases e103
                              replace p103 := eq_true p103
                              replace q103 := eq_true q103
                              have p104 : 0 ≤ (((rd_T55 l2 x12_1).f1) : Int) := of_decide_eq_true (by first | (with_reducible assumption) | assumption)
                              have q104 : ((rd_T55 l2 x12_1).f1) < (l1.length : Int) := of_decide_eq_true (by first | (with_reducible assumption) | assumption)
                              obtain ⟨ad104, e104, hx104_0⟩ := Kd.at_int HR1.out ((rd_T55 l2 x12_1).f1) p104 q104
                              cases e104
                              replace p104 := eq_true p104
                              replace q104 := eq_true q104
                              go_wp2
                              repeat (go_quiet (fail); try go_wp2)
                              go_ret
                              exact ⟨by first | rfl | (simp; done) | (simp [*]; done), by repeat (first | exact Drawn0.refl _ | apply Drawn0.step)⟩
                          · rw [if_neg c14] at H
                            exact absurd H (by simp)
                        · rw [if_neg c13] at H
                          exact absurd H (by simp)
                      · rw [if_neg c12] at H
                        exact absurd H (by simp)
                    · rw [if_neg c11] at H
                      exact absurd H (by simp)
          · rw [if_neg c6] at H
            exact absurd H (by simp)
        · rw [if_neg c5] at H
          exact absurd H (by simp)
      · rw [if_neg c4] at H
        have c4b0 : decide (x12_1 < (l2.length : Int)) = false := decide_eq_false c4
        clear c4
        obtain rfl := Option.some.inj H
        go_wp2
        repeat (go_quiet (fail); try go_wp2)
        go_ret
        exact ⟨by first | rfl | (simp; done) | (simp [*]; done), by repeat (first | exact Drawn0.refl _ | apply Drawn0.step)⟩

end Go.Proofs.Ytlkgdfeeepiidaa.All
