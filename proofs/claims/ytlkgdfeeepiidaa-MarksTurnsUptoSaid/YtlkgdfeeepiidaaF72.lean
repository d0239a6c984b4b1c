-- Made by a program of this session (wip/mk.py) over the kit's printing program; Lean checks it.
import Derived.Test.YtlkgdfeeepiidaaF0
import Derived.Test.YtlkgdfeeepiidaaF71
import Derived.Test.YtlkgdfeeepiidaaF91
import Derived.Test.YtlkgdfeeepiidaaXMk
namespace Go.Proofs.Ytlkgdfeeepiidaa.All
open Go.RowKit Go.Proofs.YtlkgdfeeepiidaaW.PrintWords Go.Proofs.YtlkgdfeeepiidaaW.PrintLast Go.Proofs.YtlkgdfeeepiidaaW.PrintMore
attribute [local go_sem] max2_int min2_int max_two min_two max_three min_three max_four min_four   -- for this text's walks alone
set_option linter.unusedVariables false
set_option linter.unusedSimpArgs false

/-! ### marks_mark: function 72 -/
def marks_mark.f (k : Nat) (a0 : Int) (a1 : ByteArray) : Option (Int) := (marks_run.f k a1).bind fun t101 => ((marks_held.f a0).bind fun t102 => (if t101 = t102 then (if t101 < (a1.size : Int) then (if 0 ≤ t101 then (if (bt a1 t101) = 32 then (if 0 < (a1.size : Int) then ((strings_IndexByte.f (⟨#[60, 124, 61, 62]⟩ : ByteArray) (bt a1 0)).bind fun t103 => (some (wrap64 (t103 + 1)))) else (none)) else (some 0)) else (none)) else (if 0 < (a1.size : Int) then ((strings_IndexByte.f (⟨#[60, 124, 61, 62]⟩ : ByteArray) (bt a1 0)).bind fun t104 => (some (wrap64 (t104 + 1)))) else (none))) else (some 0)))
theorem marks_mark.mono : ∀ a0 a1 k, LeO (marks_mark.f k a0 a1) (marks_mark.f (k + 1) a0 a1) := by
  intro a0 a1 k
  unfold marks_mark.f
  repeat' first
      | (with_reducible exact marks_run.mono _ _)
      | (with_reducible exact LeO.refl _)
      | (with_reducible exact LeO.none _)
      | (with_reducible refine LeO.ite ?_ ?_)
      | (with_reducible refine LeO.bind ?_ (fun _ => ?_))
      | exact marks_run.mono _ _
      | exact LeO.none _
      | refine LeO.ite ?_ ?_
      | refine LeO.bind ?_ (fun _ => ?_)
set_option maxHeartbeats 8000000 in
set_option maxRecDepth 100000 in
theorem marks_mark.calls (k : Nat) (a0 : Int) (a1 : ByteArray) (r : Int) (w : World) (h : marks_mark.f k a0 a1 = some r) :
    Calls Try.prog 72 #[.int .i64 a0, .string a1] w fun e w' => e = .returned (.int .i64 r) ∧ Below w.heap.size w w' := by
  have HB := Aside0.mk (Below.refl w.heap.size w)
  have H : ((marks_run.f k a1).bind fun t101 => ((marks_held.f a0).bind fun t102 => (if t101 = t102 then (if t101 < (a1.size : Int) then (if 0 ≤ t101 then (if (bt a1 t101) = 32 then (if 0 < (a1.size : Int) then ((strings_IndexByte.f (⟨#[60, 124, 61, 62]⟩ : ByteArray) (bt a1 0)).bind fun t103 => (some (wrap64 (t103 + 1)))) else (none)) else (some 0)) else (none)) else (if 0 < (a1.size : Int) then ((strings_IndexByte.f (⟨#[60, 124, 61, 62]⟩ : ByteArray) (bt a1 0)).bind fun t104 => (some (wrap64 (t104 + 1)))) else (none))) else (some 0)))) = some r := h
  clear h
  replace H := Option.bind_eq_some_iff.mp H
  obtain ⟨t101, A30, H⟩ := H
  replace H : ((marks_held.f a0).bind fun t102 => (if t101 = t102 then (if t101 < (a1.size : Int) then (if 0 ≤ t101 then (if (bt a1 t101) = 32 then (if 0 < (a1.size : Int) then ((strings_IndexByte.f (⟨#[60, 124, 61, 62]⟩ : ByteArray) (bt a1 0)).bind fun t103 => (some (wrap64 (t103 + 1)))) else (none)) else (some 0)) else (none)) else (if 0 < (a1.size : Int) then ((strings_IndexByte.f (⟨#[60, 124, 61, 62]⟩ : ByteArray) (bt a1 0)).bind fun t104 => (some (wrap64 (t104 + 1)))) else (none))) else (some 0))) = some r := H
  have A3 := Aside0.mk A30
  clear A30
  replace H := Option.bind_eq_some_iff.mp H
  obtain ⟨t102, A40, H⟩ := H
  replace H : (if t101 = t102 then (if t101 < (a1.size : Int) then (if 0 ≤ t101 then (if (bt a1 t101) = 32 then (if 0 < (a1.size : Int) then ((strings_IndexByte.f (⟨#[60, 124, 61, 62]⟩ : ByteArray) (bt a1 0)).bind fun t103 => (some (wrap64 (t103 + 1)))) else (none)) else (some 0)) else (none)) else (if 0 < (a1.size : Int) then ((strings_IndexByte.f (⟨#[60, 124, 61, 62]⟩ : ByteArray) (bt a1 0)).bind fun t104 => (some (wrap64 (t104 + 1)))) else (none))) else (some 0)) = some r := H
  have A4 := Aside0.mk A40
  clear A40
  by_cases c5 : t101 = t102
  · rw [if_pos c5] at H
    have c5b0 : (t101 == t102) = true := beq_iff_eq.mpr c5
    have c5b1 : (t101 != t102) = false := bne_eq_false_iff_eq.mpr c5
    clear c5
    by_cases c6 : t101 < (a1.size : Int)
    · rw [if_pos c6] at H
      have c6b0 : decide (t101 < (a1.size : Int)) = true := decide_eq_true c6
      clear c6
      by_cases c7 : 0 ≤ t101
      · rw [if_pos c7] at H
        have c7b0 : decide (0 ≤ t101) = true := decide_eq_true c7
        clear c7
        by_cases c9 : (bt a1 t101) = 32
        · rw [if_pos c9] at H
          have c9b0 : ((bt a1 t101) == 32) = true := beq_iff_eq.mpr c9
          have c9b1 : ((bt a1 t101) != 32) = false := bne_eq_false_iff_eq.mpr c9
          clear c9
          by_cases c10 : 0 < (a1.size : Int)
          · rw [if_pos c10] at H
            have c10b0 : decide (0 < (a1.size : Int)) = true := decide_eq_true c10
            have c10b1 : decide (0 < a1.size) = true := decide_eq_true (by omega)
            clear c10
            replace H := Option.bind_eq_some_iff.mp H
            obtain ⟨t103, A120, H⟩ := H
            replace H : (some (wrap64 (t103 + 1))) = some r := H
            have A12 := Aside0.mk A120
            clear A120
            obtain rfl := Option.some.inj H
            go_enter Try.func72, Try.ntmps72
            go_wp2_with (first | ((with_reducible refine gate_callee (f := 71) rfl ?_); refine goesL_ (some 7) rfl rfl Try.func71 (by kernel_rfl) rfl #[.string a1] rfl (by (try simp only [List.map_toArray, List.map_cons, List.map_nil]); first | done | rfl | (simp only [List.length_drop, List.length_take]; rfl)) ?_; (with_reducible refine (marks_run.calls k a1 t101 _ A3.out).mono ?_); rintro e w' ⟨rfl, ⟨nd, rfl⟩⟩; refine ⟨_, rfl, ?_⟩) | ((with_reducible refine gate_callee (f := 96) rfl ?_); refine goesL_ (some 10) rfl rfl Try.func96 (by kernel_rfl) rfl #[.int .i64 a0] rfl (by (try simp only [List.map_toArray, List.map_cons, List.map_nil]); first | done | rfl | (simp only [List.length_drop, List.length_take]; rfl)) ?_; (with_reducible refine (marks_held.calls a0 t102 _ A4.out).mono ?_); rintro e w13 ⟨rfl, hb⟩; refine ⟨_, rfl, ?_⟩; have n0_ := Aside0.mk (below_step (by repeat (first | (with_reducible first | exact HB.out | apply below_alloc | apply pw_below_drewN | apply below_drew1) | exact HB.out)) hb); clear HB; have HB := n0_; clear n0_; (try clear hb); (try clear hb2); (try clear hk); (try clear hi); have p8 : 0 ≤ (t101 : Int) := of_decide_eq_true (by first | (with_reducible assumption) | assumption); have q8 : t101 < (a1.size : Int) := of_decide_eq_true (by first | (with_reducible assumption) | assumption); have hx8 := bt_at a1 t101; replace p8 := eq_true p8; replace q8 := eq_true q8; have p11 : 0 ≤ (0 : Int) := (by omega); have q11 : 0 < a1.size := (by have : (0 : Int) < (a1.size : Int) := of_decide_eq_true (by first | (with_reducible assumption) | assumption); omega); have hx11 : ∀ h : 0 < a1.size, ((a1[0]'h).toNat : Int) = bt a1 0 := bt_at a1 0; clear p11; have qi11 : (0 < (a1.size : Int)) = True := eq_true (of_decide_eq_true (by first | (with_reducible assumption) | assumption)); replace q11 := eq_true q11) | ((with_reducible refine gate_callee (f := 94) rfl ?_); refine goesL_ (some 26) rfl rfl Try.func94 (by kernel_rfl) rfl #[.string (⟨#[60, 124, 61, 62]⟩ : ByteArray), .int .u8 (bt a1 0)] rfl (by (try simp only [List.map_toArray, List.map_cons, List.map_nil]); first | done | rfl | (simp only [List.length_drop, List.length_take]; rfl)) ?_; (with_reducible refine (strings_IndexByte.calls (⟨#[60, 124, 61, 62]⟩ : ByteArray) (bt a1 0) t103 _ A12.out).mono ?_); rintro e w' ⟨rfl, ⟨nd, rfl⟩⟩; refine ⟨_, rfl, ?_⟩))
            go_ret
            exact ⟨by first | rfl | (simp [errW_none, errW_some] <;> rfl) | (simp [*, errW_none, errW_some] <;> rfl), by repeat (first | (with_reducible first | exact HB.out | apply below_alloc | apply pw_below_drewN | apply below_drew1) | exact HB.out)⟩
          · rw [if_neg c10] at H
            exact absurd H (by simp)
        · rw [if_neg c9] at H
          have c9b0 : ((bt a1 t101) == 32) = false := beq_eq_false_iff_ne.mpr c9
          have c9b1 : ((bt a1 t101) != 32) = true := bne_iff_ne.mpr c9
          obtain rfl := Option.some.inj H
          go_enter Try.func72, Try.ntmps72
          go_wp2_with (first | ((with_reducible refine gate_callee (f := 71) rfl ?_); refine goesL_ (some 7) rfl rfl Try.func71 (by kernel_rfl) rfl #[.string a1] rfl (by (try simp only [List.map_toArray, List.map_cons, List.map_nil]); first | done | rfl | (simp only [List.length_drop, List.length_take]; rfl)) ?_; (with_reducible refine (marks_run.calls k a1 t101 _ A3.out).mono ?_); rintro e w' ⟨rfl, ⟨nd, rfl⟩⟩; refine ⟨_, rfl, ?_⟩) | ((with_reducible refine gate_callee (f := 96) rfl ?_); refine goesL_ (some 10) rfl rfl Try.func96 (by kernel_rfl) rfl #[.int .i64 a0] rfl (by (try simp only [List.map_toArray, List.map_cons, List.map_nil]); first | done | rfl | (simp only [List.length_drop, List.length_take]; rfl)) ?_; (with_reducible refine (marks_held.calls a0 t102 _ A4.out).mono ?_); rintro e w14 ⟨rfl, hb⟩; refine ⟨_, rfl, ?_⟩; have n0_ := Aside0.mk (below_step (by repeat (first | (with_reducible first | exact HB.out | apply below_alloc | apply pw_below_drewN | apply below_drew1) | exact HB.out)) hb); clear HB; have HB := n0_; clear n0_; (try clear hb); (try clear hb2); (try clear hk); (try clear hi); have p8 : 0 ≤ (t101 : Int) := of_decide_eq_true (by first | (with_reducible assumption) | assumption); have q8 : t101 < (a1.size : Int) := of_decide_eq_true (by first | (with_reducible assumption) | assumption); have hx8 := bt_at a1 t101; replace p8 := eq_true p8; replace q8 := eq_true q8))
          go_ret
          exact ⟨by first | rfl | (simp [errW_none, errW_some] <;> rfl) | (simp [*, errW_none, errW_some] <;> rfl), by repeat (first | (with_reducible first | exact HB.out | apply below_alloc | apply pw_below_drewN | apply below_drew1) | exact HB.out)⟩
      · rw [if_neg c7] at H
        exact absurd H (by simp)
    · rw [if_neg c6] at H
      have c6b0 : decide (t101 < (a1.size : Int)) = false := decide_eq_false c6
      clear c6
      by_cases c15 : 0 < (a1.size : Int)
      · rw [if_pos c15] at H
        have c15b0 : decide (0 < (a1.size : Int)) = true := decide_eq_true c15
        have c15b1 : decide (0 < a1.size) = true := decide_eq_true (by omega)
        clear c15
        replace H := Option.bind_eq_some_iff.mp H
        obtain ⟨t104, A170, H⟩ := H
        replace H : (some (wrap64 (t104 + 1))) = some r := H
        have A17 := Aside0.mk A170
        clear A170
        obtain rfl := Option.some.inj H
        go_enter Try.func72, Try.ntmps72
        go_wp2_with (first | ((with_reducible refine gate_callee (f := 71) rfl ?_); refine goesL_ (some 7) rfl rfl Try.func71 (by kernel_rfl) rfl #[.string a1] rfl (by (try simp only [List.map_toArray, List.map_cons, List.map_nil]); first | done | rfl | (simp only [List.length_drop, List.length_take]; rfl)) ?_; (with_reducible refine (marks_run.calls k a1 t101 _ A3.out).mono ?_); rintro e w' ⟨rfl, ⟨nd, rfl⟩⟩; refine ⟨_, rfl, ?_⟩) | ((with_reducible refine gate_callee (f := 96) rfl ?_); refine goesL_ (some 10) rfl rfl Try.func96 (by kernel_rfl) rfl #[.int .i64 a0] rfl (by (try simp only [List.map_toArray, List.map_cons, List.map_nil]); first | done | rfl | (simp only [List.length_drop, List.length_take]; rfl)) ?_; (with_reducible refine (marks_held.calls a0 t102 _ A4.out).mono ?_); rintro e w18 ⟨rfl, hb⟩; refine ⟨_, rfl, ?_⟩; have n0_ := Aside0.mk (below_step (by repeat (first | (with_reducible first | exact HB.out | apply below_alloc | apply pw_below_drewN | apply below_drew1) | exact HB.out)) hb); clear HB; have HB := n0_; clear n0_; (try clear hb); (try clear hb2); (try clear hk); (try clear hi); have p16 : 0 ≤ (0 : Int) := (by omega); have q16 : 0 < a1.size := (by have : (0 : Int) < (a1.size : Int) := of_decide_eq_true (by first | (with_reducible assumption) | assumption); omega); have hx16 : ∀ h : 0 < a1.size, ((a1[0]'h).toNat : Int) = bt a1 0 := bt_at a1 0; clear p16; have qi16 : (0 < (a1.size : Int)) = True := eq_true (of_decide_eq_true (by first | (with_reducible assumption) | assumption)); replace q16 := eq_true q16) | ((with_reducible refine gate_callee (f := 94) rfl ?_); refine goesL_ (some 26) rfl rfl Try.func94 (by kernel_rfl) rfl #[.string (⟨#[60, 124, 61, 62]⟩ : ByteArray), .int .u8 (bt a1 0)] rfl (by (try simp only [List.map_toArray, List.map_cons, List.map_nil]); first | done | rfl | (simp only [List.length_drop, List.length_take]; rfl)) ?_; (with_reducible refine (strings_IndexByte.calls (⟨#[60, 124, 61, 62]⟩ : ByteArray) (bt a1 0) t104 _ A17.out).mono ?_); rintro e w' ⟨rfl, ⟨nd, rfl⟩⟩; refine ⟨_, rfl, ?_⟩))
        go_ret
        exact ⟨by first | rfl | (simp [errW_none, errW_some] <;> rfl) | (simp [*, errW_none, errW_some] <;> rfl), by repeat (first | (with_reducible first | exact HB.out | apply below_alloc | apply pw_below_drewN | apply below_drew1) | exact HB.out)⟩
      · rw [if_neg c15] at H
        exact absurd H (by simp)
  · rw [if_neg c5] at H
    have c5b0 : (t101 == t102) = false := beq_eq_false_iff_ne.mpr c5
    have c5b1 : (t101 != t102) = true := bne_iff_ne.mpr c5
    obtain rfl := Option.some.inj H
    go_enter Try.func72, Try.ntmps72
    go_wp2_with (first | ((with_reducible refine gate_callee (f := 71) rfl ?_); refine goesL_ (some 7) rfl rfl Try.func71 (by kernel_rfl) rfl #[.string a1] rfl (by (try simp only [List.map_toArray, List.map_cons, List.map_nil]); first | done | rfl | (simp only [List.length_drop, List.length_take]; rfl)) ?_; (with_reducible refine (marks_run.calls k a1 t101 _ A3.out).mono ?_); rintro e w' ⟨rfl, ⟨nd, rfl⟩⟩; refine ⟨_, rfl, ?_⟩) | ((with_reducible refine gate_callee (f := 96) rfl ?_); refine goesL_ (some 10) rfl rfl Try.func96 (by kernel_rfl) rfl #[.int .i64 a0] rfl (by (try simp only [List.map_toArray, List.map_cons, List.map_nil]); first | done | rfl | (simp only [List.length_drop, List.length_take]; rfl)) ?_; (with_reducible refine (marks_held.calls a0 t102 _ A4.out).mono ?_); rintro e w19 ⟨rfl, hb⟩; refine ⟨_, rfl, ?_⟩; have n0_ := Aside0.mk (below_step (by repeat (first | (with_reducible first | exact HB.out | apply below_alloc | apply pw_below_drewN | apply below_drew1) | exact HB.out)) hb); clear HB; have HB := n0_; clear n0_; (try clear hb); (try clear hb2); (try clear hk); (try clear hi)))
    go_ret
    exact ⟨by first | rfl | (simp [errW_none, errW_some] <;> rfl) | (simp [*, errW_none, errW_some] <;> rfl), by repeat (first | (with_reducible first | exact HB.out | apply below_alloc | apply pw_below_drewN | apply below_drew1) | exact HB.out)⟩

end Go.Proofs.Ytlkgdfeeepiidaa.All
