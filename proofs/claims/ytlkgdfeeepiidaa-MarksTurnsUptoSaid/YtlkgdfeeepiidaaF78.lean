-- Made by a program of this session (wip/mk.py) over the kit's printing program; Lean checks it.
import Derived.Test.YtlkgdfeeepiidaaF0
import Derived.Test.YtlkgdfeeepiidaaF76
namespace Go.Proofs.Ytlkgdfeeepiidaa.All
open Go.RowKit Go.Proofs.YtlkgdfeeepiidaaW.PrintWords Go.Proofs.YtlkgdfeeepiidaaW.PrintLast Go.Proofs.YtlkgdfeeepiidaaW.PrintMore
attribute [local go_sem] max2_int min2_int max_two min_two max_three min_three max_four min_four   -- for this text's walks alone
set_option linter.unusedVariables false
set_option linter.unusedSimpArgs false

/-! ### weave_weaver_next: function 78 -/
def weave_weaver_next.l0 : Nat → Int → List Int → List Int → List Int → List Int → List Int → Int → Int → Int → Option (Int × Int × Int × Int × Int × Int)
  | 0, _, _, _, _, _, _, _, _, _ => none
  | k + 1, x5, x1000, x1001, x1002, x1003, x1004, x1005, x1006, x1007 => if x5 < (x1000.length : Int) then (if 0 ≤ x5 then (if x5 < (x1003.length : Int) then (if (rd x1003 x5) ≥ 0 then (if x5 < (x1004.length : Int) then (if (rd x1004 x5) ≥ 0 then (some (x5, rd x1003 x5, rd x1004 x5, x1005, x1006, x1007)) else (weave_weaver_next.l0 k (wrap64 (x5 + 1)) x1000 x1001 x1002 x1003 x1004 x1005 x1006 x1007)) else (none)) else (weave_weaver_next.l0 k (wrap64 (x5 + 1)) x1000 x1001 x1002 x1003 x1004 x1005 x1006 x1007)) else (none)) else (none)) else (some ((x1000.length : Int), (x1001.length : Int), (x1002.length : Int), x1005, x1006, x1007))
def weave_weaver_next.f (k : Nat) (s0_0 : List Int) (s0_1 : List Int) (s0_2 : List Int) (s0_3 : List Int) (s0_4 : List Int) (s0_5 : Int) (s0_6 : Int) (s0_7 : Int) : Option (Int × Int × Int × Int × Int × Int) := weave_weaver_next.l0 k s0_5 s0_0 s0_1 s0_2 s0_3 s0_4 s0_5 s0_6 s0_7
theorem weave_weaver_next.mono_l : ∀ k, (∀ y0 y1 y2 y3 y4 y5 y6 y7 y8, LeO (weave_weaver_next.l0 k y0 y1 y2 y3 y4 y5 y6 y7 y8) (weave_weaver_next.l0 (k + 1) y0 y1 y2 y3 y4 y5 y6 y7 y8))
  | 0 => fun _ _ _ _ _ _ _ _ _ r h => by simp [weave_weaver_next.l0] at h
  | k + 1 => by
    have ih0 := weave_weaver_next.mono_l k
    · intro y0 y1 y2 y3 y4 y5 y6 y7 y8
      unfold weave_weaver_next.l0
      repeat' first
      | (with_reducible exact ih0 _ _ _ _ _ _ _ _ _)
      | (with_reducible exact LeO.refl _)
      | (with_reducible exact LeO.none _)
      | (with_reducible refine LeO.ite ?_ ?_)
      | (with_reducible refine LeO.bind ?_ (fun _ => ?_))
      | exact ih0 _ _ _ _ _ _ _ _ _
      | exact LeO.none _
      | refine LeO.ite ?_ ?_
      | refine LeO.bind ?_ (fun _ => ?_)
theorem weave_weaver_next.mono : ∀ a0 a1 a2 a3 a4 a5 a6 a7 k, LeO (weave_weaver_next.f k a0 a1 a2 a3 a4 a5 a6 a7) (weave_weaver_next.f (k + 1) a0 a1 a2 a3 a4 a5 a6 a7) := by
  intro a0 a1 a2 a3 a4 a5 a6 a7 k
  have ih0 := weave_weaver_next.mono_l k
  unfold weave_weaver_next.f
  repeat' first
      | (with_reducible exact ih0 _ _ _ _ _ _ _ _ _)
      | (with_reducible exact LeO.refl _)
      | (with_reducible exact LeO.none _)
      | (with_reducible refine LeO.ite ?_ ?_)
      | (with_reducible refine LeO.bind ?_ (fun _ => ?_))
      | exact ih0 _ _ _ _ _ _ _ _ _
      | exact LeO.none _
      | refine LeO.ite ?_ ?_
      | refine LeO.bind ?_ (fun _ => ?_)
set_option maxHeartbeats 8000000 in
set_option maxRecDepth 100000 in
theorem weave_weaver_next.calls (k : Nat) (g : Nat) (s0_0 : List Int) (s0_1 : List Int) (s0_2 : List Int) (s0_3 : List Int) (s0_4 : List Int) (s0_5 : Int) (s0_6 : Int) (s0_7 : Int) (r1 : Int) (r2 : Int) (r3 : Int) (r4 : Int) (r5 : Int) (r6 : Int) (w0 w : World) (hI : IsS104 w0 w g s0_0 s0_1 s0_2 s0_3 s0_4 s0_5 s0_6 s0_7) (hB : Below w0.heap.size w0 w) (h : weave_weaver_next.f k s0_0 s0_1 s0_2 s0_3 s0_4 s0_5 s0_6 s0_7 = some (r1, r2, r3, r4, r5, r6)) :
    Calls Try.prog 78 #[.pointer (some ⟨g, 0, none⟩)] w fun e w' => e = .returned (.tuple #[.int .i64 r1, .int .i64 r2, .int .i64 r3]) ∧ IsS104 w0 w' g s0_0 s0_1 s0_2 s0_3 s0_4 r4 r5 r6 ∧ Below w0.heap.size w0 w' ∧ KeepBut w w' g none := by
  have HI0 := Aside0.mk hI
  have HK := Aside0.mk (KeepBut.refl w g none)
  have HL := Aside0.mk hB.size
  clear hI
  have HW0 := Aside0.mk hB.size
  have HB := Aside0.mk hB
  clear hB
  have H : (weave_weaver_next.l0 k s0_5 s0_0 s0_1 s0_2 s0_3 s0_4 s0_5 s0_6 s0_7) = some (r1, r2, r3, r4, r5, r6) := h
  clear h
  have H' := Aside0.mk H
  clear H
  obtain ⟨ASz2_0, cSz2_0, ASz2_1, cSz2_1, ASz2_2, cSz2_2, ASz2_3, cSz2_3, ASz2_4, cSz2_4, HGz2, hgz2, HSz2_0, HSz2_1, HSz2_2, HSz2_3, HSz2_4⟩ := HI0.out
  have hcz2_0 := cellS104_0 HGz2
  have hcz2_1 := cellS104_1 HGz2
  have hcz2_2 := cellS104_2 HGz2
  have hcz2_3 := cellS104_3 HGz2
  have hcz2_4 := cellS104_4 HGz2
  have hcz2_5 := cellS104_5 HGz2
  have hcz2_6 := cellS104_6 HGz2
  have hcz2_7 := cellS104_7 HGz2
  have hfz2_5 := blk_frozen HGz2 5
  have hfz2_6 := blk_frozen HGz2 6
  have hfz2_7 := blk_frozen HGz2 7
  clear HGz2 hgz2
  go_enter Try.func78, Try.ntmps78
  go_wp2
  repeat (go_quiet (fail); try go_wp2)
  go_loopg [5] k (fun kq v5 w' => ∃ (x5_1 : Int), v5 = .int .i64 x5_1 ∧ Aside0 (weave_weaver_next.l0 kq x5_1 s0_0 s0_1 s0_2 s0_3 s0_4 s0_5 s0_6 s0_7 = some (r1, r2, r3, r4, r5, r6)) ∧ Aside0 (kq ≤ k) ∧ Aside0 (IsS104 w0 w' g s0_0 s0_1 s0_2 s0_3 s0_4 s0_5 s0_6 s0_7) ∧ Aside0 (KeepBut w w' g none) ∧ Aside0 (Below w0.heap.size w0 w'))
  case atStart => exact ⟨(s0_5), (by first | rfl | (simp; done) | (simp [*]; done)), H', ⟨Nat.le_refl _⟩, ⟨by repeat (first | (with_reducible first | exact HI0.out | apply IsS104.alloc | apply IsS104.drewN | apply IsS104.drew | apply IsS104.set_5 | apply IsS104.set_6 | apply IsS104.set_7) | exact HI0.out)⟩, ⟨by repeat (first | (with_reducible first | exact HK.out | apply KeepBut.set_ | apply keep_drewN | apply keep_drew | apply keep_alloc) | exact HK.out)⟩, ⟨by repeat (first | (with_reducible first | exact HB.out | apply below_alloc | apply pw_below_drewN | apply below_drew1 | refine below_set ?_ (IsS104.ge HI0.out)) | exact HB.out)⟩⟩
  case round =>
    clear H'
    try clear p2
    try clear hcz2_0
    try clear hcz2_1
    try clear hcz2_2
    try clear hcz2_3
    try clear hcz2_4
    try clear hcz2_5
    try clear hcz2_6
    try clear hcz2_7
    try clear hfz2_5
    try clear hfz2_6
    try clear hfz2_7
    obtain ⟨x5_1, rfl, HA, HK1, HI0, HK, HB⟩ := hrel
    cases gk with
    | zero => exact absurd HA.out (by simp [weave_weaver_next.l0])
    | succ k1 =>
      have H := HA.out
      clear HA
      simp only [weave_weaver_next.l0] at H
      by_cases c3 : x5_1 < (s0_0.length : Int)
      · rw [if_pos c3] at H
        have c3b0 : decide (x5_1 < (s0_0.length : Int)) = true := decide_eq_true c3
        clear c3
        by_cases c4 : 0 ≤ x5_1
        · rw [if_pos c4] at H
          have c4b0 : decide (0 ≤ x5_1) = true := decide_eq_true c4
          clear c4
          by_cases c5 : x5_1 < (s0_3.length : Int)
          · rw [if_pos c5] at H
            have c5b0 : decide (x5_1 < (s0_3.length : Int)) = true := decide_eq_true c5
            clear c5
            by_cases c6 : (rd s0_3 x5_1) ≥ 0
            · rw [if_pos c6] at H
              have c6b0 : decide (0 ≤ (rd s0_3 x5_1)) = true := decide_eq_true c6
              clear c6
              by_cases c7 : x5_1 < (s0_4.length : Int)
              · rw [if_pos c7] at H
                have c7b0 : decide (x5_1 < (s0_4.length : Int)) = true := decide_eq_true c7
                clear c7
                by_cases c8 : (rd s0_4 x5_1) ≥ 0
                · rw [if_pos c8] at H
                  have c8b0 : decide (0 ≤ (rd s0_4 x5_1)) = true := decide_eq_true c8
                  clear c8
                  simp only [Option.some.injEq, Prod.mk.injEq] at H
                  obtain ⟨rfl, rfl, rfl, rfl, rfl, rfl⟩ := H
                  obtain ⟨ASz9_0, cSz9_0, ASz9_1, cSz9_1, ASz9_2, cSz9_2, ASz9_3, cSz9_3, ASz9_4, cSz9_4, HGz9, hgz9, HSz9_0, HSz9_1, HSz9_2, HSz9_3, HSz9_4⟩ := HI0.out
                  have hcz9_0 := cellS104_0 HGz9
                  have hcz9_1 := cellS104_1 HGz9
                  have hcz9_2 := cellS104_2 HGz9
                  have hcz9_3 := cellS104_3 HGz9
                  have hcz9_4 := cellS104_4 HGz9
                  have hcz9_5 := cellS104_5 HGz9
                  have hcz9_6 := cellS104_6 HGz9
                  have hcz9_7 := cellS104_7 HGz9
                  have hfz9_5 := blk_frozen HGz9 5
                  have hfz9_6 := blk_frozen HGz9 6
                  have hfz9_7 := blk_frozen HGz9 7
                  clear HGz9 hgz9
                  have p101 : 0 ≤ (x5_1 : Int) := of_decide_eq_true (by first | (with_reducible assumption) | assumption)
                  have q101 : x5_1 < (s0_3.length : Int) := of_decide_eq_true (by first | (with_reducible assumption) | assumption)
                  obtain ⟨ad101, e101, hx101_0⟩ := Kd.at_int HSz9_3 x5_1 p101 q101
                  cases e101
                  replace hx101_0 := pw_cell_below HB.out hx101_0
                  replace p101 := eq_true p101
                  replace q101 := eq_true q101
                  have p102 : 0 ≤ (x5_1 : Int) := of_decide_eq_true (by first | (with_reducible assumption) | assumption)
                  have q102 : x5_1 < (s0_4.length : Int) := of_decide_eq_true (by first | (with_reducible assumption) | assumption)
                  obtain ⟨ad102, e102, hx102_0⟩ := Kd.at_int HSz9_4 x5_1 p102 q102
                  cases e102
                  replace hx102_0 := pw_cell_below HB.out hx102_0
                  replace p102 := eq_true p102
                  replace q102 := eq_true q102
                  have p103 : 0 ≤ (x5_1 : Int) := of_decide_eq_true (by first | (with_reducible assumption) | assumption)
                  have q103 : x5_1 < (s0_3.length : Int) := of_decide_eq_true (by first | (with_reducible assumption) | assumption)
                  obtain ⟨ad103, e103, hx103_0⟩ := Kd.at_int HSz9_3 x5_1 p103 q103
                  obtain rfl : ad101 = ad103 := (by injection e103)
                  replace hx103_0 := pw_cell_below HB.out hx103_0
                  replace p103 := eq_true p103
                  replace q103 := eq_true q103
                  have p104 : 0 ≤ (x5_1 : Int) := of_decide_eq_true (by first | (with_reducible assumption) | assumption)
                  have q104 : x5_1 < (s0_4.length : Int) := of_decide_eq_true (by first | (with_reducible assumption) | assumption)
                  obtain ⟨ad104, e104, hx104_0⟩ := Kd.at_int HSz9_4 x5_1 p104 q104
                  obtain rfl : ad102 = ad104 := (by injection e104)
                  replace hx104_0 := pw_cell_below HB.out hx104_0
                  replace p104 := eq_true p104
                  replace q104 := eq_true q104
                  go_wp2
                  repeat (go_quiet (fail); try go_wp2)
                  go_ret3
                  exact ⟨by first | rfl | (simp [errW_none, errW_some] <;> rfl) | (simp [*, errW_none, errW_some] <;> rfl), by repeat (first | (with_reducible first | exact HI0.out | apply IsS104.alloc | apply IsS104.drewN | apply IsS104.drew | apply IsS104.set_5 | apply IsS104.set_6 | apply IsS104.set_7) | exact HI0.out), by repeat (first | (with_reducible first | exact HB.out | apply below_alloc | apply pw_below_drewN | apply below_drew1 | refine below_set ?_ (IsS104.ge HI0.out)) | exact HB.out), by repeat (first | (with_reducible first | exact HK.out | apply KeepBut.set_ | apply keep_drewN | apply keep_drew | apply keep_alloc) | exact HK.out)⟩
                · rw [if_neg c8] at H
                  have c8b0 : decide (0 ≤ (rd s0_4 x5_1)) = false := decide_eq_false c8
                  clear c8
                  have H' := Aside0.mk H
                  clear H
                  obtain ⟨ASz10_0, cSz10_0, ASz10_1, cSz10_1, ASz10_2, cSz10_2, ASz10_3, cSz10_3, ASz10_4, cSz10_4, HGz10, hgz10, HSz10_0, HSz10_1, HSz10_2, HSz10_3, HSz10_4⟩ := HI0.out
                  have hcz10_0 := cellS104_0 HGz10
                  have hcz10_1 := cellS104_1 HGz10
                  have hcz10_2 := cellS104_2 HGz10
                  have hcz10_3 := cellS104_3 HGz10
                  have hcz10_4 := cellS104_4 HGz10
                  have hcz10_5 := cellS104_5 HGz10
                  have hcz10_6 := cellS104_6 HGz10
                  have hcz10_7 := cellS104_7 HGz10
                  have hfz10_5 := blk_frozen HGz10 5
                  have hfz10_6 := blk_frozen HGz10 6
                  have hfz10_7 := blk_frozen HGz10 7
                  clear HGz10 hgz10
                  have p101 : 0 ≤ (x5_1 : Int) := of_decide_eq_true (by first | (with_reducible assumption) | assumption)
                  have q101 : x5_1 < (s0_3.length : Int) := of_decide_eq_true (by first | (with_reducible assumption) | assumption)
                  obtain ⟨ad101, e101, hx101_0⟩ := Kd.at_int HSz10_3 x5_1 p101 q101
                  cases e101
                  replace hx101_0 := pw_cell_below HB.out hx101_0
                  replace p101 := eq_true p101
                  replace q101 := eq_true q101
                  have p102 : 0 ≤ (x5_1 : Int) := of_decide_eq_true (by first | (with_reducible assumption) | assumption)
                  have q102 : x5_1 < (s0_4.length : Int) := of_decide_eq_true (by first | (with_reducible assumption) | assumption)
                  obtain ⟨ad102, e102, hx102_0⟩ := Kd.at_int HSz10_4 x5_1 p102 q102
                  cases e102
                  replace hx102_0 := pw_cell_below HB.out hx102_0
                  replace p102 := eq_true p102
                  replace q102 := eq_true q102
                  go_wp2
                  repeat (go_quiet (fail); try go_wp2)
                  go_roundg k1
                  case measure => have := HK1.out; omega
                  case rel => exact ⟨(wrap64 (x5_1 + 1)), (by first | rfl | (simp; done) | (simp [*]; done)), H', ⟨by have := HK1.out; omega⟩, ⟨by repeat (first | (with_reducible first | exact HI0.out | apply IsS104.alloc | apply IsS104.drewN | apply IsS104.drew | apply IsS104.set_5 | apply IsS104.set_6 | apply IsS104.set_7) | exact HI0.out)⟩, ⟨by repeat (first | (with_reducible first | exact HK.out | apply KeepBut.set_ | apply keep_drewN | apply keep_drew | apply keep_alloc) | exact HK.out)⟩, ⟨by repeat (first | (with_reducible first | exact HB.out | apply below_alloc | apply pw_below_drewN | apply below_drew1 | refine below_set ?_ (IsS104.ge HI0.out)) | exact HB.out)⟩⟩
              · rw [if_neg c7] at H
                exact absurd H (by simp)
            · rw [if_neg c6] at H
              have c6b0 : decide (0 ≤ (rd s0_3 x5_1)) = false := decide_eq_false c6
              clear c6
              have H' := Aside0.mk H
              clear H
              obtain ⟨ASz11_0, cSz11_0, ASz11_1, cSz11_1, ASz11_2, cSz11_2, ASz11_3, cSz11_3, ASz11_4, cSz11_4, HGz11, hgz11, HSz11_0, HSz11_1, HSz11_2, HSz11_3, HSz11_4⟩ := HI0.out
              have hcz11_0 := cellS104_0 HGz11
              have hcz11_1 := cellS104_1 HGz11
              have hcz11_2 := cellS104_2 HGz11
              have hcz11_3 := cellS104_3 HGz11
              have hcz11_4 := cellS104_4 HGz11
              have hcz11_5 := cellS104_5 HGz11
              have hcz11_6 := cellS104_6 HGz11
              have hcz11_7 := cellS104_7 HGz11
              have hfz11_5 := blk_frozen HGz11 5
              have hfz11_6 := blk_frozen HGz11 6
              have hfz11_7 := blk_frozen HGz11 7
              clear HGz11 hgz11
              have p101 : 0 ≤ (x5_1 : Int) := of_decide_eq_true (by first | (with_reducible assumption) | assumption)
              have q101 : x5_1 < (s0_3.length : Int) := of_decide_eq_true (by first | (with_reducible assumption) | assumption)
              obtain ⟨ad101, e101, hx101_0⟩ := Kd.at_int HSz11_3 x5_1 p101 q101
              cases e101
              replace hx101_0 := pw_cell_below HB.out hx101_0
              replace p101 := eq_true p101
              replace q101 := eq_true q101
              go_wp2
              repeat (go_quiet (fail); try go_wp2)
              go_roundg k1
              case measure => have := HK1.out; omega
              case rel => exact ⟨(wrap64 (x5_1 + 1)), (by first | rfl | (simp; done) | (simp [*]; done)), H', ⟨by have := HK1.out; omega⟩, ⟨by repeat (first | (with_reducible first | exact HI0.out | apply IsS104.alloc | apply IsS104.drewN | apply IsS104.drew | apply IsS104.set_5 | apply IsS104.set_6 | apply IsS104.set_7) | exact HI0.out)⟩, ⟨by repeat (first | (with_reducible first | exact HK.out | apply KeepBut.set_ | apply keep_drewN | apply keep_drew | apply keep_alloc) | exact HK.out)⟩, ⟨by repeat (first | (with_reducible first | exact HB.out | apply below_alloc | apply pw_below_drewN | apply below_drew1 | refine below_set ?_ (IsS104.ge HI0.out)) | exact HB.out)⟩⟩
          · rw [if_neg c5] at H
            exact absurd H (by simp)
        · rw [if_neg c4] at H
          exact absurd H (by simp)
      · rw [if_neg c3] at H
        have c3b0 : decide (x5_1 < (s0_0.length : Int)) = false := decide_eq_false c3
        clear c3
        simp only [Option.some.injEq, Prod.mk.injEq] at H
        obtain ⟨rfl, rfl, rfl, rfl, rfl, rfl⟩ := H
        obtain ⟨ASz12_0, cSz12_0, ASz12_1, cSz12_1, ASz12_2, cSz12_2, ASz12_3, cSz12_3, ASz12_4, cSz12_4, HGz12, hgz12, HSz12_0, HSz12_1, HSz12_2, HSz12_3, HSz12_4⟩ := HI0.out
        have hcz12_0 := cellS104_0 HGz12
        have hcz12_1 := cellS104_1 HGz12
        have hcz12_2 := cellS104_2 HGz12
        have hcz12_3 := cellS104_3 HGz12
        have hcz12_4 := cellS104_4 HGz12
        have hcz12_5 := cellS104_5 HGz12
        have hcz12_6 := cellS104_6 HGz12
        have hcz12_7 := cellS104_7 HGz12
        have hfz12_5 := blk_frozen HGz12 5
        have hfz12_6 := blk_frozen HGz12 6
        have hfz12_7 := blk_frozen HGz12 7
        clear HGz12 hgz12
        go_wp2
        repeat (go_quiet (fail); try go_wp2)
        go_ret3
        exact ⟨by first | rfl | (simp [errW_none, errW_some] <;> rfl) | (simp [*, errW_none, errW_some] <;> rfl), by repeat (first | (with_reducible first | exact HI0.out | apply IsS104.alloc | apply IsS104.drewN | apply IsS104.drew | apply IsS104.set_5 | apply IsS104.set_6 | apply IsS104.set_7) | exact HI0.out), by repeat (first | (with_reducible first | exact HB.out | apply below_alloc | apply pw_below_drewN | apply below_drew1 | refine below_set ?_ (IsS104.ge HI0.out)) | exact HB.out), by repeat (first | (with_reducible first | exact HK.out | apply KeepBut.set_ | apply keep_drewN | apply keep_drew | apply keep_alloc) | exact HK.out)⟩

end Go.Proofs.Ytlkgdfeeepiidaa.All
