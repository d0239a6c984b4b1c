-- Made by a program of this session (wip/mk.py) over the kit's printing program; Lean checks it.
import Derived.Test.YtlkgdfeeepiidaaF0
import Derived.Test.YtlkgdfeeepiidaaF49
import Derived.Test.YtlkgdfeeepiidaaF50
import Derived.Test.YtlkgdfeeepiidaaXWv
namespace Go.Proofs.Ytlkgdfeeepiidaa.All
open Go.RowKit Go.Proofs.YtlkgdfeeepiidaaW.PrintWords Go.Proofs.YtlkgdfeeepiidaaW.PrintLast Go.Proofs.YtlkgdfeeepiidaaW.PrintMore
attribute [local go_sem] max2_int min2_int max_two min_two max_three min_three max_four min_four   -- for this text's walks alone
set_option linter.unusedVariables false
set_option linter.unusedSimpArgs false

/-! ### emendationlaw05_WeaveAll: function 16 -/
mutual
def emendationlaw05_WeaveAll.j0 : Nat → List Int → List Int → List Int → Bool → Option (Bool)
  | 0, _, _, _, _ => none
  | k + 1, x0, x1, x2, x21 => if x21 = true then ((emendationlaw05_awake.f k).bind fun t103 => (some t103)) else ((weave_Chunks.f k x0 x1 x2).bind fun t104 => (emendationlaw05_WeaveAll.l0 k x0 x1 x2 t104 0 0 0 (t104.length : Int) 0))
def emendationlaw05_WeaveAll.l0 : Nat → List Int → List Int → List Int → List (S75) → Int → Int → Int → Int → Int → Option (Bool)
  | 0, _, _, _, _, _, _, _, _, _ => none
  | k + 1, x0, x1, x2, x7, x8, x9, x10, x28, x29 => if x29 < x28 then (if 0 ≤ x29 then (if x29 < (x7.length : Int) then (if ((rd_T75 x7 x29).f0.f0) = x8 then (if ((rd_T75 x7 x29).f1.f0) = x9 then (if ((rd_T75 x7 x29).f2.f0) = x10 then (if ((rd_T75 x7 x29).f0.f1) < x8 then (emendationlaw05_WeaveAll.j2 k x0 x1 x2 x7 x29 x28 x29 true ((rd_T75 x7 x29).f0.f0) ((rd_T75 x7 x29).f0.f1) ((rd_T75 x7 x29).f1.f0) ((rd_T75 x7 x29).f1.f1) ((rd_T75 x7 x29).f2.f0) ((rd_T75 x7 x29).f2.f1) ((rd_T75 x7 x29).f3)) else (if ((rd_T75 x7 x29).f1.f1) < x9 then (emendationlaw05_WeaveAll.j2 k x0 x1 x2 x7 x29 x28 x29 true ((rd_T75 x7 x29).f0.f0) ((rd_T75 x7 x29).f0.f1) ((rd_T75 x7 x29).f1.f0) ((rd_T75 x7 x29).f1.f1) ((rd_T75 x7 x29).f2.f0) ((rd_T75 x7 x29).f2.f1) ((rd_T75 x7 x29).f3)) else (if ((rd_T75 x7 x29).f2.f1) < x10 then (emendationlaw05_WeaveAll.j2 k x0 x1 x2 x7 x29 x28 x29 true ((rd_T75 x7 x29).f0.f0) ((rd_T75 x7 x29).f0.f1) ((rd_T75 x7 x29).f1.f0) ((rd_T75 x7 x29).f1.f1) ((rd_T75 x7 x29).f2.f0) ((rd_T75 x7 x29).f2.f1) ((rd_T75 x7 x29).f3)) else (if (wrap64 ((wrap64 (((rd_T75 x7 x29).f0.f1) + ((rd_T75 x7 x29).f1.f1))) + ((rd_T75 x7 x29).f2.f1))) = (wrap64 ((wrap64 (x8 + x9)) + x10)) then (emendationlaw05_WeaveAll.j2 k x0 x1 x2 x7 x29 x28 x29 true ((rd_T75 x7 x29).f0.f0) ((rd_T75 x7 x29).f0.f1) ((rd_T75 x7 x29).f1.f0) ((rd_T75 x7 x29).f1.f1) ((rd_T75 x7 x29).f2.f0) ((rd_T75 x7 x29).f2.f1) ((rd_T75 x7 x29).f3)) else (if ((rd_T75 x7 x29).f3) < 1 then (emendationlaw05_WeaveAll.j2 k x0 x1 x2 x7 x29 x28 x29 true ((rd_T75 x7 x29).f0.f0) ((rd_T75 x7 x29).f0.f1) ((rd_T75 x7 x29).f1.f0) ((rd_T75 x7 x29).f1.f1) ((rd_T75 x7 x29).f2.f0) ((rd_T75 x7 x29).f2.f1) ((rd_T75 x7 x29).f3)) else (emendationlaw05_WeaveAll.j2 k x0 x1 x2 x7 x29 x28 x29 (decide (((rd_T75 x7 x29).f3) > 5)) ((rd_T75 x7 x29).f0.f0) ((rd_T75 x7 x29).f0.f1) ((rd_T75 x7 x29).f1.f0) ((rd_T75 x7 x29).f1.f1) ((rd_T75 x7 x29).f2.f0) ((rd_T75 x7 x29).f2.f1) ((rd_T75 x7 x29).f3))))))) else (emendationlaw05_WeaveAll.j2 k x0 x1 x2 x7 x29 x28 x29 true ((rd_T75 x7 x29).f0.f0) ((rd_T75 x7 x29).f0.f1) ((rd_T75 x7 x29).f1.f0) ((rd_T75 x7 x29).f1.f1) ((rd_T75 x7 x29).f2.f0) ((rd_T75 x7 x29).f2.f1) ((rd_T75 x7 x29).f3))) else (emendationlaw05_WeaveAll.j2 k x0 x1 x2 x7 x29 x28 x29 true ((rd_T75 x7 x29).f0.f0) ((rd_T75 x7 x29).f0.f1) ((rd_T75 x7 x29).f1.f0) ((rd_T75 x7 x29).f1.f1) ((rd_T75 x7 x29).f2.f0) ((rd_T75 x7 x29).f2.f1) ((rd_T75 x7 x29).f3))) else (emendationlaw05_WeaveAll.j2 k x0 x1 x2 x7 x29 x28 x29 true ((rd_T75 x7 x29).f0.f0) ((rd_T75 x7 x29).f0.f1) ((rd_T75 x7 x29).f1.f0) ((rd_T75 x7 x29).f1.f1) ((rd_T75 x7 x29).f2.f0) ((rd_T75 x7 x29).f2.f1) ((rd_T75 x7 x29).f3))) else (none)) else (none)) else (if x8 = (x0.length : Int) then (if x9 = (x1.length : Int) then (some (x10 == (x2.length : Int))) else (some false)) else (some false))
def emendationlaw05_WeaveAll.j2 : Nat → List Int → List Int → List Int → List (S75) → Int → Int → Int → Bool → Int → Int → Int → Int → Int → Int → Int → Option (Bool)
  | 0, _, _, _, _, _, _, _, _, _, _, _, _, _, _, _ => none
  | k + 1, x0, x1, x2, x7, x11, x28, x29, x104, x109000, x109001, x109002, x109003, x109004, x109005, x109006 => if x104 = true then (some false) else (if x11 > 0 then (if 0 ≤ (wrap64 (x11 - 1)) then (if (wrap64 (x11 - 1)) < (x7.length : Int) then (if ((((rd_T75 x7 (wrap64 (x11 - 1))).f3) == 1) == (x109006 == 1)) = true then (some false) else (emendationlaw05_WeaveAll.l0 k x0 x1 x2 x7 x109001 x109003 x109005 x28 (wrap64 (x29 + 1)))) else (none)) else (none)) else (emendationlaw05_WeaveAll.l0 k x0 x1 x2 x7 x109001 x109003 x109005 x28 (wrap64 (x29 + 1))))
end
def emendationlaw05_WeaveAll.f (k : Nat) (l0 : List Int) (l1 : List Int) (l2 : List Int) : Option (Bool) := (emendationlaw05_awake.f k).bind fun t101 => (if t101 = true then ((emendationlaw05_few.f l0 l1 l2).bind fun t102 => (emendationlaw05_WeaveAll.j0 k l0 l1 l2 (!t102))) else (emendationlaw05_WeaveAll.j0 k l0 l1 l2 true))
theorem emendationlaw05_WeaveAll.mono_l : ∀ k, (∀ y0 y1 y2 y3, LeO (emendationlaw05_WeaveAll.j0 k y0 y1 y2 y3) (emendationlaw05_WeaveAll.j0 (k + 1) y0 y1 y2 y3)) ∧ (∀ y0 y1 y2 y3 y4 y5 y6 y7 y8, LeO (emendationlaw05_WeaveAll.l0 k y0 y1 y2 y3 y4 y5 y6 y7 y8) (emendationlaw05_WeaveAll.l0 (k + 1) y0 y1 y2 y3 y4 y5 y6 y7 y8)) ∧ (∀ y0 y1 y2 y3 y4 y5 y6 y7 y8 y9 y10 y11 y12 y13 y14, LeO (emendationlaw05_WeaveAll.j2 k y0 y1 y2 y3 y4 y5 y6 y7 y8 y9 y10 y11 y12 y13 y14) (emendationlaw05_WeaveAll.j2 (k + 1) y0 y1 y2 y3 y4 y5 y6 y7 y8 y9 y10 y11 y12 y13 y14))
  | 0 => ⟨fun _ _ _ _ r h => by simp [emendationlaw05_WeaveAll.j0] at h, fun _ _ _ _ _ _ _ _ _ r h => by simp [emendationlaw05_WeaveAll.l0] at h, fun _ _ _ _ _ _ _ _ _ _ _ _ _ _ _ r h => by simp [emendationlaw05_WeaveAll.j2] at h⟩
  | k + 1 => by
    obtain ⟨ih0, ih1, ih2⟩ := emendationlaw05_WeaveAll.mono_l k
    refine ⟨?_, ?_, ?_⟩
    · intro y0 y1 y2 y3
      unfold emendationlaw05_WeaveAll.j0
      repeat' first
      | (with_reducible exact ih0 _ _ _ _)
      | (with_reducible exact ih1 _ _ _ _ _ _ _ _ _)
      | (with_reducible exact ih2 _ _ _ _ _ _ _ _ _ _ _ _ _ _ _)
      | (with_reducible exact emendationlaw05_awake.mono _)
      | (with_reducible exact weave_Chunks.mono _ _ _ _)
      | (with_reducible exact LeO.refl _)
      | (with_reducible exact LeO.none _)
      | (with_reducible refine LeO.ite ?_ ?_)
      | (with_reducible refine LeO.bind ?_ (fun _ => ?_))
      | exact ih0 _ _ _ _
      | exact ih1 _ _ _ _ _ _ _ _ _
      | exact ih2 _ _ _ _ _ _ _ _ _ _ _ _ _ _ _
      | exact emendationlaw05_awake.mono _
      | exact weave_Chunks.mono _ _ _ _
      | exact LeO.none _
      | refine LeO.ite ?_ ?_
      | refine LeO.bind ?_ (fun _ => ?_)
    · intro y0 y1 y2 y3 y4 y5 y6 y7 y8
      unfold emendationlaw05_WeaveAll.l0
      repeat' first
      | (with_reducible exact ih0 _ _ _ _)
      | (with_reducible exact ih1 _ _ _ _ _ _ _ _ _)
      | (with_reducible exact ih2 _ _ _ _ _ _ _ _ _ _ _ _ _ _ _)
      | (with_reducible exact emendationlaw05_awake.mono _)
      | (with_reducible exact weave_Chunks.mono _ _ _ _)
      | (with_reducible exact LeO.refl _)
      | (with_reducible exact LeO.none _)
      | (with_reducible refine LeO.ite ?_ ?_)
      | (with_reducible refine LeO.bind ?_ (fun _ => ?_))
      | exact ih0 _ _ _ _
      | exact ih1 _ _ _ _ _ _ _ _ _
      | exact ih2 _ _ _ _ _ _ _ _ _ _ _ _ _ _ _
      | exact emendationlaw05_awake.mono _
      | exact weave_Chunks.mono _ _ _ _
      | exact LeO.none _
      | refine LeO.ite ?_ ?_
      | refine LeO.bind ?_ (fun _ => ?_)
    · intro y0 y1 y2 y3 y4 y5 y6 y7 y8 y9 y10 y11 y12 y13 y14
      unfold emendationlaw05_WeaveAll.j2
      repeat' first
      | (with_reducible exact ih0 _ _ _ _)
      | (with_reducible exact ih1 _ _ _ _ _ _ _ _ _)
      | (with_reducible exact ih2 _ _ _ _ _ _ _ _ _ _ _ _ _ _ _)
      | (with_reducible exact emendationlaw05_awake.mono _)
      | (with_reducible exact weave_Chunks.mono _ _ _ _)
      | (with_reducible exact LeO.refl _)
      | (with_reducible exact LeO.none _)
      | (with_reducible refine LeO.ite ?_ ?_)
      | (with_reducible refine LeO.bind ?_ (fun _ => ?_))
      | exact ih0 _ _ _ _
      | exact ih1 _ _ _ _ _ _ _ _ _
      | exact ih2 _ _ _ _ _ _ _ _ _ _ _ _ _ _ _
      | exact emendationlaw05_awake.mono _
      | exact weave_Chunks.mono _ _ _ _
      | exact LeO.none _
      | refine LeO.ite ?_ ?_
      | refine LeO.bind ?_ (fun _ => ?_)
theorem emendationlaw05_WeaveAll.mono : ∀ a0 a1 a2 k, LeO (emendationlaw05_WeaveAll.f k a0 a1 a2) (emendationlaw05_WeaveAll.f (k + 1) a0 a1 a2) := by
  intro a0 a1 a2 k
  obtain ⟨ih0, ih1, ih2⟩ := emendationlaw05_WeaveAll.mono_l k
  unfold emendationlaw05_WeaveAll.f
  repeat' first
      | (with_reducible exact ih0 _ _ _ _)
      | (with_reducible exact ih1 _ _ _ _ _ _ _ _ _)
      | (with_reducible exact ih2 _ _ _ _ _ _ _ _ _ _ _ _ _ _ _)
      | (with_reducible exact emendationlaw05_awake.mono _)
      | (with_reducible exact weave_Chunks.mono _ _ _ _)
      | (with_reducible exact LeO.refl _)
      | (with_reducible exact LeO.none _)
      | (with_reducible refine LeO.ite ?_ ?_)
      | (with_reducible refine LeO.bind ?_ (fun _ => ?_))
      | exact ih0 _ _ _ _
      | exact ih1 _ _ _ _ _ _ _ _ _
      | exact ih2 _ _ _ _ _ _ _ _ _ _ _ _ _ _ _
      | exact emendationlaw05_awake.mono _
      | exact weave_Chunks.mono _ _ _ _
      | exact LeO.none _
      | refine LeO.ite ?_ ?_
      | refine LeO.bind ?_ (fun _ => ?_)
set_option maxHeartbeats 8000000 in
set_option maxRecDepth 100000 in
theorem emendationlaw05_WeaveAll.calls (k : Nat) (A0 : Option Addr) (c0 : Nat) (l0 : List Int) (A1 : Option Addr) (c1 : Nat) (l1 : List Int) (A2 : Option Addr) (c2 : Nat) (l2 : List Int) (r : Bool) (w : World) (hr0 : Kd.C (Kd.int .i64) w A0 l0.length l0) (hc0 : l0.length ≤ c0) (hr1 : Kd.C (Kd.int .i64) w A1 l1.length l1) (hc1 : l1.length ≤ c1) (hr2 : Kd.C (Kd.int .i64) w A2 l2.length l2) (hc2 : l2.length ≤ c2) (h : emendationlaw05_WeaveAll.f k l0 l1 l2 = some r) :
    Calls Try.prog 16 #[.slice A0 l0.length c0, .slice A1 l1.length c1, .slice A2 l2.length c2] w fun e w' => e = .returned (.bool r) ∧ Below w.heap.size w w' := by
  have hu75 := Try.underlying75
  have HR0 := Aside0.mk hr0
  have HC0 := Aside0.mk hc0
  clear hr0 hc0
  have HR1 := Aside0.mk hr1
  have HC1 := Aside0.mk hc1
  clear hr1 hc1
  have HR2 := Aside0.mk hr2
  have HC2 := Aside0.mk hc2
  clear hr2 hc2
  have HB := Aside0.mk (Below.refl w.heap.size w)
  have H : ((emendationlaw05_awake.f k).bind fun t101 => (if t101 = true then ((emendationlaw05_few.f l0 l1 l2).bind fun t102 => (emendationlaw05_WeaveAll.j0 k l0 l1 l2 (!t102))) else (emendationlaw05_WeaveAll.j0 k l0 l1 l2 true))) = some r := h
  clear h
  have HC4 := Aside0.mk H
  clear H
  go_enter Try.func16, Try.ntmps16
  go_upto_region 1 with (fail)
  repeat (go_quiet (fail); go_upto_region 1 with (fail))
  go_cut [21] (fun v21 wc => ∃ (kq : Nat) (x21_3 : Bool), v21 = .bool x21_3 ∧ Aside0 (emendationlaw05_WeaveAll.j0 kq l0 l1 l2 x21_3 = some r) ∧ Aside0 (kq ≤ k) ∧ Aside0 (Below w.heap.size w wc))
  case first =>
    have H := HC4.out
    clear HC4
    replace H := Option.bind_eq_some_iff.mp H
    obtain ⟨t101, A50, H⟩ := H
    replace H : (if t101 = true then ((emendationlaw05_few.f l0 l1 l2).bind fun t102 => (emendationlaw05_WeaveAll.j0 k l0 l1 l2 (!t102))) else (emendationlaw05_WeaveAll.j0 k l0 l1 l2 true)) = some r := H
    have A5 := Aside0.mk A50
    clear A50
    by_cases c6 : t101 = true
    · subst c6
      have H1 : ((emendationlaw05_few.f l0 l1 l2).bind fun t102 => (emendationlaw05_WeaveAll.j0 k l0 l1 l2 (!t102))) = some r := by rw [if_pos rfl] at H; exact H
      clear H
      have H := H1
      clear H1
      replace H := Option.bind_eq_some_iff.mp H
      obtain ⟨t102, A70, H⟩ := H
      replace H : (emendationlaw05_WeaveAll.j0 k l0 l1 l2 (!t102)) = some r := H
      have A7 := Aside0.mk A70
      clear A70
      have H' := Aside0.mk H
      clear H
      go_wp2_with (first | (go_at_call 49; (with_reducible refine (emendationlaw05_awake.calls k  true _ A5.out).mono ?_); rintro e w8 ⟨rfl, hb⟩; have n0_ := Aside0.mk (below_step (by repeat (first | (with_reducible first | exact HB.out | apply below_alloc | apply pw_below_drewN | apply below_drew1) | exact HB.out)) hb); clear HB; have HB := n0_; clear n0_; (try clear hb); (try clear hb2); (try clear hk); (try clear hi)) | (go_at_call 50; (with_reducible refine (emendationlaw05_few.calls _ _ l0 _ _ l1 _ _ l2 t102 _ ?side1 ?side2 ?side3 ?side4 ?side5 ?side6 A7.out).mono ?_); (case side1 => repeat (first | exact (Kd.C_below HR0.out HB.out) | (with_reducible refine Kd.C_alloc ?_ _) | (with_reducible refine Kd.C_drewN ?_ _) | (with_reducible refine Kd.C_drew ?_))); (case side2 => exact HC0.out); (case side3 => repeat (first | exact (Kd.C_below HR1.out HB.out) | (with_reducible refine Kd.C_alloc ?_ _) | (with_reducible refine Kd.C_drewN ?_ _) | (with_reducible refine Kd.C_drew ?_))); (case side4 => exact HC1.out); (case side5 => repeat (first | exact (Kd.C_below HR2.out HB.out) | (with_reducible refine Kd.C_alloc ?_ _) | (with_reducible refine Kd.C_drewN ?_ _) | (with_reducible refine Kd.C_drew ?_))); (case side6 => exact HC2.out); rintro e w' ⟨rfl, ⟨nd, rfl⟩⟩; (try first | exact ⟨rfl, _, World.drewN_drewN _ _ _⟩ | exact ⟨rfl, _, Eq.trans (World.drewN_drewN _ _ _) (congrArg (World.drewN _) (Nat.add_assoc _ _ _))⟩)))
      repeat (go_quiet (first | (go_at_call 49; (with_reducible refine (emendationlaw05_awake.calls k  true _ A5.out).mono ?_); rintro e w8 ⟨rfl, hb⟩; have n0_ := Aside0.mk (below_step (by repeat (first | (with_reducible first | exact HB.out | apply below_alloc | apply pw_below_drewN | apply below_drew1) | exact HB.out)) hb); clear HB; have HB := n0_; clear n0_; (try clear hb); (try clear hb2); (try clear hk); (try clear hi)) | (go_at_call 50; (with_reducible refine (emendationlaw05_few.calls _ _ l0 _ _ l1 _ _ l2 t102 _ ?side1 ?side2 ?side3 ?side4 ?side5 ?side6 A7.out).mono ?_); (case side1 => repeat (first | exact (Kd.C_below HR0.out HB.out) | (with_reducible refine Kd.C_alloc ?_ _) | (with_reducible refine Kd.C_drewN ?_ _) | (with_reducible refine Kd.C_drew ?_))); (case side2 => exact HC0.out); (case side3 => repeat (first | exact (Kd.C_below HR1.out HB.out) | (with_reducible refine Kd.C_alloc ?_ _) | (with_reducible refine Kd.C_drewN ?_ _) | (with_reducible refine Kd.C_drew ?_))); (case side4 => exact HC1.out); (case side5 => repeat (first | exact (Kd.C_below HR2.out HB.out) | (with_reducible refine Kd.C_alloc ?_ _) | (with_reducible refine Kd.C_drewN ?_ _) | (with_reducible refine Kd.C_drew ?_))); (case side6 => exact HC2.out); rintro e w' ⟨rfl, ⟨nd, rfl⟩⟩; (try first | exact ⟨rfl, _, World.drewN_drewN _ _ _⟩ | exact ⟨rfl, _, Eq.trans (World.drewN_drewN _ _ _) (congrArg (World.drewN _) (Nat.add_assoc _ _ _))⟩))); try go_wp2_with (first | (go_at_call 49; (with_reducible refine (emendationlaw05_awake.calls k  true _ A5.out).mono ?_); rintro e w8 ⟨rfl, hb⟩; have n0_ := Aside0.mk (below_step (by repeat (first | (with_reducible first | exact HB.out | apply below_alloc | apply pw_below_drewN | apply below_drew1) | exact HB.out)) hb); clear HB; have HB := n0_; clear n0_; (try clear hb); (try clear hb2); (try clear hk); (try clear hi)) | (go_at_call 50; (with_reducible refine (emendationlaw05_few.calls _ _ l0 _ _ l1 _ _ l2 t102 _ ?side1 ?side2 ?side3 ?side4 ?side5 ?side6 A7.out).mono ?_); (case side1 => repeat (first | exact (Kd.C_below HR0.out HB.out) | (with_reducible refine Kd.C_alloc ?_ _) | (with_reducible refine Kd.C_drewN ?_ _) | (with_reducible refine Kd.C_drew ?_))); (case side2 => exact HC0.out); (case side3 => repeat (first | exact (Kd.C_below HR1.out HB.out) | (with_reducible refine Kd.C_alloc ?_ _) | (with_reducible refine Kd.C_drewN ?_ _) | (with_reducible refine Kd.C_drew ?_))); (case side4 => exact HC1.out); (case side5 => repeat (first | exact (Kd.C_below HR2.out HB.out) | (with_reducible refine Kd.C_alloc ?_ _) | (with_reducible refine Kd.C_drewN ?_ _) | (with_reducible refine Kd.C_drew ?_))); (case side6 => exact HC2.out); rintro e w' ⟨rfl, ⟨nd, rfl⟩⟩; (try first | exact ⟨rfl, _, World.drewN_drewN _ _ _⟩ | exact ⟨rfl, _, Eq.trans (World.drewN_drewN _ _ _) (congrArg (World.drewN _) (Nat.add_assoc _ _ _))⟩))))
      go_meet
      case rel => exact ⟨_, (!t102), (by first | rfl | (simp; done) | (simp [*]; done)), H', ⟨by first | omega | exact Nat.le_refl _⟩, ⟨by repeat (first | (with_reducible first | exact HB.out | apply below_alloc | apply pw_below_drewN | apply below_drew1) | exact HB.out)⟩⟩
    · replace c6 := Bool.eq_false_iff.mpr c6
      subst c6
      have H1 : (emendationlaw05_WeaveAll.j0 k l0 l1 l2 true) = some r := by rw [if_neg (show ¬ (false = true) by decide)] at H; exact H
      clear H
      have H := H1
      clear H1
      have H' := Aside0.mk H
      clear H
      go_wp2_with (first | (go_at_call 49; (with_reducible refine (emendationlaw05_awake.calls k  false _ A5.out).mono ?_); rintro e w9 ⟨rfl, hb⟩; have n0_ := Aside0.mk (below_step (by repeat (first | (with_reducible first | exact HB.out | apply below_alloc | apply pw_below_drewN | apply below_drew1) | exact HB.out)) hb); clear HB; have HB := n0_; clear n0_; (try clear hb); (try clear hb2); (try clear hk); (try clear hi)))
      repeat (go_quiet (first | (go_at_call 49; (with_reducible refine (emendationlaw05_awake.calls k  false _ A5.out).mono ?_); rintro e w9 ⟨rfl, hb⟩; have n0_ := Aside0.mk (below_step (by repeat (first | (with_reducible first | exact HB.out | apply below_alloc | apply pw_below_drewN | apply below_drew1) | exact HB.out)) hb); clear HB; have HB := n0_; clear n0_; (try clear hb); (try clear hb2); (try clear hk); (try clear hi))); try go_wp2_with (first | (go_at_call 49; (with_reducible refine (emendationlaw05_awake.calls k  false _ A5.out).mono ?_); rintro e w9 ⟨rfl, hb⟩; have n0_ := Aside0.mk (below_step (by repeat (first | (with_reducible first | exact HB.out | apply below_alloc | apply pw_below_drewN | apply below_drew1) | exact HB.out)) hb); clear HB; have HB := n0_; clear n0_; (try clear hb); (try clear hb2); (try clear hk); (try clear hi))))
      go_meet
      case rel => exact ⟨_, (true), (by first | rfl | (simp; done) | (simp [*]; done)), H', ⟨by first | omega | exact Nat.le_refl _⟩, ⟨by repeat (first | (with_reducible first | exact HB.out | apply below_alloc | apply pw_below_drewN | apply below_drew1) | exact HB.out)⟩⟩
  case rest =>
    clear HC4
    try clear c1
    try clear c2
    try clear p2
    try clear c6
    obtain ⟨kq, x21_3, rfl, HA, HJ3, HB⟩ := hcut
    cases kq with
    | zero => exact absurd HA.out (by simp [emendationlaw05_WeaveAll.j0])
    | succ kj3 =>
      have H := HA.out
      clear HA
      simp only [emendationlaw05_WeaveAll.j0] at H
      by_cases c10 : x21_3 = true
      · subst c10
        have H1 : ((emendationlaw05_awake.f kj3).bind fun t103 => (some t103)) = some r := by rw [if_pos rfl] at H; exact H
        clear H
        have H := H1
        clear H1
        replace H := Option.bind_eq_some_iff.mp H
        obtain ⟨t103, A110, H⟩ := H
        replace H : (some t103) = some r := H
        have A11 := Aside0.mk A110
        clear A110
        obtain rfl := Option.some.inj H
        go_wp2_with (first | (go_at_call 49; (with_reducible refine (emendationlaw05_awake.calls kj3  t103 _ A11.out).mono ?_); rintro e w12 ⟨rfl, hb⟩; have n0_ := Aside0.mk (below_step (by repeat (first | (with_reducible first | exact HB.out | apply below_alloc | apply pw_below_drewN | apply below_drew1) | exact HB.out)) hb); clear HB; have HB := n0_; clear n0_; (try clear hb); (try clear hb2); (try clear hk); (try clear hi)))
        repeat (go_quiet (first | (go_at_call 49; (with_reducible refine (emendationlaw05_awake.calls kj3  t103 _ A11.out).mono ?_); rintro e w12 ⟨rfl, hb⟩; have n0_ := Aside0.mk (below_step (by repeat (first | (with_reducible first | exact HB.out | apply below_alloc | apply pw_below_drewN | apply below_drew1) | exact HB.out)) hb); clear HB; have HB := n0_; clear n0_; (try clear hb); (try clear hb2); (try clear hk); (try clear hi))); try go_wp2_with (first | (go_at_call 49; (with_reducible refine (emendationlaw05_awake.calls kj3  t103 _ A11.out).mono ?_); rintro e w12 ⟨rfl, hb⟩; have n0_ := Aside0.mk (below_step (by repeat (first | (with_reducible first | exact HB.out | apply below_alloc | apply pw_below_drewN | apply below_drew1) | exact HB.out)) hb); clear HB; have HB := n0_; clear n0_; (try clear hb); (try clear hb2); (try clear hk); (try clear hi))))
        go_ret
        exact ⟨by first | rfl | (simp [errW_none, errW_some] <;> rfl) | (simp [*, errW_none, errW_some] <;> rfl), by repeat (first | (with_reducible first | exact HB.out | apply below_alloc | apply pw_below_drewN | apply below_drew1) | exact HB.out)⟩
      · replace c10 := Bool.eq_false_iff.mpr c10
        subst c10
        have H1 : ((weave_Chunks.f kj3 l0 l1 l2).bind fun t104 => (emendationlaw05_WeaveAll.l0 kj3 l0 l1 l2 t104 0 0 0 (t104.length : Int) 0)) = some r := by rw [if_neg (show ¬ (false = true) by decide)] at H; exact H
        clear H
        have H := H1
        clear H1
        replace H := Option.bind_eq_some_iff.mp H
        obtain ⟨t104, A130, H⟩ := H
        replace H : (emendationlaw05_WeaveAll.l0 kj3 l0 l1 l2 t104 0 0 0 (t104.length : Int) 0) = some r := H
        have A13 := Aside0.mk A130
        clear A130
        have H' := Aside0.mk H
        clear H
        go_wp2_with (first | (go_at_call 51; (with_reducible refine (weave_Chunks.calls kj3 _ _ l0 _ _ l1 _ _ l2 t104 _ ?side1 ?side2 ?side3 ?side4 ?side5 ?side6 A13.out).mono ?_); (case side1 => repeat (first | exact (Kd.C_below HR0.out HB.out) | (with_reducible refine Kd.C_alloc ?_ _) | (with_reducible refine Kd.C_drewN ?_ _) | (with_reducible refine Kd.C_drew ?_))); (case side2 => exact HC0.out); (case side3 => repeat (first | exact (Kd.C_below HR1.out HB.out) | (with_reducible refine Kd.C_alloc ?_ _) | (with_reducible refine Kd.C_drewN ?_ _) | (with_reducible refine Kd.C_drew ?_))); (case side4 => exact HC1.out); (case side5 => repeat (first | exact (Kd.C_below HR2.out HB.out) | (with_reducible refine Kd.C_alloc ?_ _) | (with_reducible refine Kd.C_drewN ?_ _) | (with_reducible refine Kd.C_drew ?_))); (case side6 => exact HC2.out); rintro e w14 ⟨v105, rfl, ho0, hb⟩; have n0_ := Aside0.mk (Kd.R_lower ho0 (below_size (by repeat (first | (with_reducible first | exact HB.out | apply below_alloc | apply pw_below_drewN | apply below_drew1) | exact HB.out)))); have n1_ := Aside0.mk (below_step (by repeat (first | (with_reducible first | exact HB.out | apply below_alloc | apply pw_below_drewN | apply below_drew1) | exact HB.out)) hb); clear HB; have HO106 := n0_; have HB := n1_; clear n0_ n1_; (try clear hb); (try clear hb2); (try clear hk); (try clear hi); (try clear ho0); obtain ⟨Ao15, co15, eo15⟩ := Kd.R_slice HO106.out; subst eo15))
        repeat (go_quiet (first | (go_at_call 51; (with_reducible refine (weave_Chunks.calls kj3 _ _ l0 _ _ l1 _ _ l2 t104 _ ?side1 ?side2 ?side3 ?side4 ?side5 ?side6 A13.out).mono ?_); (case side1 => repeat (first | exact (Kd.C_below HR0.out HB.out) | (with_reducible refine Kd.C_alloc ?_ _) | (with_reducible refine Kd.C_drewN ?_ _) | (with_reducible refine Kd.C_drew ?_))); (case side2 => exact HC0.out); (case side3 => repeat (first | exact (Kd.C_below HR1.out HB.out) | (with_reducible refine Kd.C_alloc ?_ _) | (with_reducible refine Kd.C_drewN ?_ _) | (with_reducible refine Kd.C_drew ?_))); (case side4 => exact HC1.out); (case side5 => repeat (first | exact (Kd.C_below HR2.out HB.out) | (with_reducible refine Kd.C_alloc ?_ _) | (with_reducible refine Kd.C_drewN ?_ _) | (with_reducible refine Kd.C_drew ?_))); (case side6 => exact HC2.out); rintro e w14 ⟨v105, rfl, ho0, hb⟩; have n0_ := Aside0.mk (Kd.R_lower ho0 (below_size (by repeat (first | (with_reducible first | exact HB.out | apply below_alloc | apply pw_below_drewN | apply below_drew1) | exact HB.out)))); have n1_ := Aside0.mk (below_step (by repeat (first | (with_reducible first | exact HB.out | apply below_alloc | apply pw_below_drewN | apply below_drew1) | exact HB.out)) hb); clear HB; have HO106 := n0_; have HB := n1_; clear n0_ n1_; (try clear hb); (try clear hb2); (try clear hk); (try clear hi); (try clear ho0); obtain ⟨Ao15, co15, eo15⟩ := Kd.R_slice HO106.out; subst eo15)); try go_wp2_with (first | (go_at_call 51; (with_reducible refine (weave_Chunks.calls kj3 _ _ l0 _ _ l1 _ _ l2 t104 _ ?side1 ?side2 ?side3 ?side4 ?side5 ?side6 A13.out).mono ?_); (case side1 => repeat (first | exact (Kd.C_below HR0.out HB.out) | (with_reducible refine Kd.C_alloc ?_ _) | (with_reducible refine Kd.C_drewN ?_ _) | (with_reducible refine Kd.C_drew ?_))); (case side2 => exact HC0.out); (case side3 => repeat (first | exact (Kd.C_below HR1.out HB.out) | (with_reducible refine Kd.C_alloc ?_ _) | (with_reducible refine Kd.C_drewN ?_ _) | (with_reducible refine Kd.C_drew ?_))); (case side4 => exact HC1.out); (case side5 => repeat (first | exact (Kd.C_below HR2.out HB.out) | (with_reducible refine Kd.C_alloc ?_ _) | (with_reducible refine Kd.C_drewN ?_ _) | (with_reducible refine Kd.C_drew ?_))); (case side6 => exact HC2.out); rintro e w14 ⟨v105, rfl, ho0, hb⟩; have n0_ := Aside0.mk (Kd.R_lower ho0 (below_size (by repeat (first | (with_reducible first | exact HB.out | apply below_alloc | apply pw_below_drewN | apply below_drew1) | exact HB.out)))); have n1_ := Aside0.mk (below_step (by repeat (first | (with_reducible first | exact HB.out | apply below_alloc | apply pw_below_drewN | apply below_drew1) | exact HB.out)) hb); clear HB; have HO106 := n0_; have HB := n1_; clear n0_ n1_; (try clear hb); (try clear hb2); (try clear hk); (try clear hi); (try clear ho0); obtain ⟨Ao15, co15, eo15⟩ := Kd.R_slice HO106.out; subst eo15)))
        go_loopg [8, 9, 10, 29] kj3 (fun kq v8 v9 v10 v29 w' => ∃ (x8_2 : Int) (x9_2 : Int) (x10_2 : Int) (x29_2 : Int), v8 = .int .i64 x8_2 ∧ v9 = .int .i64 x9_2 ∧ v10 = .int .i64 x10_2 ∧ v29 = .int .i64 x29_2 ∧ Aside0 (emendationlaw05_WeaveAll.l0 kq l0 l1 l2 t104 x8_2 x9_2 x10_2 (t104.length : Int) x29_2 = some r) ∧ Aside0 (kq ≤ kj3) ∧ Aside0 (Kd.R k75 75 w' w.heap.size (fun _ => True) (.slice Ao15 t104.length co15) t104) ∧ Aside0 (Below w.heap.size w w'))
        case atStart => exact ⟨(0), (0), (0), (0), (by first | rfl | (simp; done) | (simp [*]; done)), (by first | rfl | (simp; done) | (simp [*]; done)), (by first | rfl | (simp; done) | (simp [*]; done)), (by first | rfl | (simp; done) | (simp [*]; done)), H', ⟨Nat.le_refl _⟩, ⟨by (with_reducible repeat (first | apply Kd.R_alloc | apply Kd.R_drewN | apply Kd.R_drew)); exact HO106.out⟩, ⟨by repeat (first | (with_reducible first | exact HB.out | apply below_alloc | apply pw_below_drewN | apply below_drew1) | exact HB.out)⟩⟩
        case round =>
          clear H'
          try clear c1
          try clear c2
          try clear p2
          try clear c6
          try clear c10
          try clear p2
          obtain ⟨x8_2, x9_2, x10_2, x29_2, rfl, rfl, rfl, rfl, HA, HK2, HO_7, HB⟩ := hrel
          cases gk with
          | zero => exact absurd HA.out (by simp [emendationlaw05_WeaveAll.l0])
          | succ k2 =>
            have H := HA.out
            clear HA
            simp only [emendationlaw05_WeaveAll.l0] at H
            by_cases c16 : x29_2 < (t104.length : Int)
            · rw [if_pos c16] at H
              have c16b0 : decide (x29_2 < (t104.length : Int)) = true := decide_eq_true c16
              clear c16
              by_cases c17 : 0 ≤ x29_2
              · rw [if_pos c17] at H
                have c17b0 : decide (0 ≤ x29_2) = true := decide_eq_true c17
                clear c17
                by_cases c18 : x29_2 < (t104.length : Int)
                · rw [if_pos c18] at H
                  have c18b0 : decide (x29_2 < (t104.length : Int)) = true := decide_eq_true c18
                  clear c18
                  have HC19 := Aside0.mk H
                  clear H
                  have p107 : 0 ≤ (x29_2 : Int) := of_decide_eq_true (by first | (with_reducible assumption) | assumption)
                  have q107 : x29_2 < (t104.length : Int) := of_decide_eq_true (by first | (with_reducible assumption) | assumption)
                  obtain ⟨ad107, e107, hx107_0, hx107_1, hx107_2, hx107_3, hx107_4, hx107_5, hx107_6⟩ := at_T75 (Kd.R_reads' HO_7.out).2.2 x29_2 p107 q107
                  cases e107
                  replace p107 := eq_true p107
                  replace q107 := eq_true q107
                  go_upto_region 9 with (first | ((with_reducible refine gate_dst (N := 12) rfl ?_); (try (refine gate_guard (by rfl) ?_; dsimp only)); refine box_event ?hg (N := 12) ?hd (cs := #[.int .i64 0, .int .i64 0, .int .i64 0, .int .i64 0, .int .i64 0, .int .i64 0, .int .i64 0]) (t := 75) ?hr ?_; (case hd => rfl); (case hg => rfl); (case hr => first | (go_simp; done) | (go_simp; rfl)); intro gb108 hg w20 hbox hb; have n0_ := Aside0.mk (Kd.R_below (Kd.R_elderB (by (with_reducible repeat (first | apply Kd.R_alloc | apply Kd.R_drewN | apply Kd.R_drew)); exact HO_7.out) gb108 (Nat.le_of_eq hg.symm)) hb); have n1_ := Aside0.mk (below_step (by repeat (first | (with_reducible first | exact HB.out | apply below_alloc | apply pw_below_drewN | apply below_drew1) | exact HB.out)) hb); have n2_ := Aside0.mk (hbox); have n3_ := Aside0.mk ((by rw [hg]; exact (below_size (by repeat (first | (with_reducible first | exact HB.out | apply below_alloc | apply pw_below_drewN | apply below_drew1) | exact HB.out))) : w.heap.size ≤ gb108)); have n4_ := Aside0.mk ((by rw [hg]; exact (below_size (by repeat (first | (with_reducible first | exact HB.out | apply below_alloc | apply pw_below_drewN | apply below_drew1) | exact HB.out))) : w.heap.size ≤ gb108)); clear HO_7; clear HB; have HO_7 := n0_; have HB := n1_; have BK108 := n2_; have GW108 := n3_; have GE108 := n4_; clear n0_ n1_ n2_ n3_ n4_; clear hb hbox hg; have hcz21_0 : w20.cell? ⟨gb108, 0, none⟩ = some (.int .i64 0) := (blk_cell BK108.out 0).trans rfl; have hcz21_1 : w20.cell? ⟨gb108, 1, none⟩ = some (.int .i64 0) := (blk_cell BK108.out 1).trans rfl; have hcz21_2 : w20.cell? ⟨gb108, 2, none⟩ = some (.int .i64 0) := (blk_cell BK108.out 2).trans rfl; have hcz21_3 : w20.cell? ⟨gb108, 3, none⟩ = some (.int .i64 0) := (blk_cell BK108.out 3).trans rfl; have hcz21_4 : w20.cell? ⟨gb108, 4, none⟩ = some (.int .i64 0) := (blk_cell BK108.out 4).trans rfl; have hcz21_5 : w20.cell? ⟨gb108, 5, none⟩ = some (.int .i64 0) := (blk_cell BK108.out 5).trans rfl; have hcz21_6 : w20.cell? ⟨gb108, 6, none⟩ = some (.int .i64 0) := (blk_cell BK108.out 6).trans rfl; have hfz21_0 := blk_frozen BK108.out 0; have hfz21_1 := blk_frozen BK108.out 1; have hfz21_2 := blk_frozen BK108.out 2; have hfz21_3 := blk_frozen BK108.out 3; have hfz21_4 := blk_frozen BK108.out 4; have hfz21_5 := blk_frozen BK108.out 5; have hfz21_6 := blk_frozen BK108.out 6))
                  repeat (go_quiet (first | ((with_reducible refine gate_dst (N := 12) rfl ?_); (try (refine gate_guard (by rfl) ?_; dsimp only)); refine box_event ?hg (N := 12) ?hd (cs := #[.int .i64 0, .int .i64 0, .int .i64 0, .int .i64 0, .int .i64 0, .int .i64 0, .int .i64 0]) (t := 75) ?hr ?_; (case hd => rfl); (case hg => rfl); (case hr => first | (go_simp; done) | (go_simp; rfl)); intro gb108 hg w20 hbox hb; have n0_ := Aside0.mk (Kd.R_below (Kd.R_elderB (by (with_reducible repeat (first | apply Kd.R_alloc | apply Kd.R_drewN | apply Kd.R_drew)); exact HO_7.out) gb108 (Nat.le_of_eq hg.symm)) hb); have n1_ := Aside0.mk (below_step (by repeat (first | (with_reducible first | exact HB.out | apply below_alloc | apply pw_below_drewN | apply below_drew1) | exact HB.out)) hb); have n2_ := Aside0.mk (hbox); have n3_ := Aside0.mk ((by rw [hg]; exact (below_size (by repeat (first | (with_reducible first | exact HB.out | apply below_alloc | apply pw_below_drewN | apply below_drew1) | exact HB.out))) : w.heap.size ≤ gb108)); have n4_ := Aside0.mk ((by rw [hg]; exact (below_size (by repeat (first | (with_reducible first | exact HB.out | apply below_alloc | apply pw_below_drewN | apply below_drew1) | exact HB.out))) : w.heap.size ≤ gb108)); clear HO_7; clear HB; have HO_7 := n0_; have HB := n1_; have BK108 := n2_; have GW108 := n3_; have GE108 := n4_; clear n0_ n1_ n2_ n3_ n4_; clear hb hbox hg; have hcz21_0 : w20.cell? ⟨gb108, 0, none⟩ = some (.int .i64 0) := (blk_cell BK108.out 0).trans rfl; have hcz21_1 : w20.cell? ⟨gb108, 1, none⟩ = some (.int .i64 0) := (blk_cell BK108.out 1).trans rfl; have hcz21_2 : w20.cell? ⟨gb108, 2, none⟩ = some (.int .i64 0) := (blk_cell BK108.out 2).trans rfl; have hcz21_3 : w20.cell? ⟨gb108, 3, none⟩ = some (.int .i64 0) := (blk_cell BK108.out 3).trans rfl; have hcz21_4 : w20.cell? ⟨gb108, 4, none⟩ = some (.int .i64 0) := (blk_cell BK108.out 4).trans rfl; have hcz21_5 : w20.cell? ⟨gb108, 5, none⟩ = some (.int .i64 0) := (blk_cell BK108.out 5).trans rfl; have hcz21_6 : w20.cell? ⟨gb108, 6, none⟩ = some (.int .i64 0) := (blk_cell BK108.out 6).trans rfl; have hfz21_0 := blk_frozen BK108.out 0; have hfz21_1 := blk_frozen BK108.out 1; have hfz21_2 := blk_frozen BK108.out 2; have hfz21_3 := blk_frozen BK108.out 3; have hfz21_4 := blk_frozen BK108.out 4; have hfz21_5 := blk_frozen BK108.out 5; have hfz21_6 := blk_frozen BK108.out 6)); go_upto_region 9 with (first | ((with_reducible refine gate_dst (N := 12) rfl ?_); (try (refine gate_guard (by rfl) ?_; dsimp only)); refine box_event ?hg (N := 12) ?hd (cs := #[.int .i64 0, .int .i64 0, .int .i64 0, .int .i64 0, .int .i64 0, .int .i64 0, .int .i64 0]) (t := 75) ?hr ?_; (case hd => rfl); (case hg => rfl); (case hr => first | (go_simp; done) | (go_simp; rfl)); intro gb108 hg w20 hbox hb; have n0_ := Aside0.mk (Kd.R_below (Kd.R_elderB (by (with_reducible repeat (first | apply Kd.R_alloc | apply Kd.R_drewN | apply Kd.R_drew)); exact HO_7.out) gb108 (Nat.le_of_eq hg.symm)) hb); have n1_ := Aside0.mk (below_step (by repeat (first | (with_reducible first | exact HB.out | apply below_alloc | apply pw_below_drewN | apply below_drew1) | exact HB.out)) hb); have n2_ := Aside0.mk (hbox); have n3_ := Aside0.mk ((by rw [hg]; exact (below_size (by repeat (first | (with_reducible first | exact HB.out | apply below_alloc | apply pw_below_drewN | apply below_drew1) | exact HB.out))) : w.heap.size ≤ gb108)); have n4_ := Aside0.mk ((by rw [hg]; exact (below_size (by repeat (first | (with_reducible first | exact HB.out | apply below_alloc | apply pw_below_drewN | apply below_drew1) | exact HB.out))) : w.heap.size ≤ gb108)); clear HO_7; clear HB; have HO_7 := n0_; have HB := n1_; have BK108 := n2_; have GW108 := n3_; have GE108 := n4_; clear n0_ n1_ n2_ n3_ n4_; clear hb hbox hg; have hcz21_0 : w20.cell? ⟨gb108, 0, none⟩ = some (.int .i64 0) := (blk_cell BK108.out 0).trans rfl; have hcz21_1 : w20.cell? ⟨gb108, 1, none⟩ = some (.int .i64 0) := (blk_cell BK108.out 1).trans rfl; have hcz21_2 : w20.cell? ⟨gb108, 2, none⟩ = some (.int .i64 0) := (blk_cell BK108.out 2).trans rfl; have hcz21_3 : w20.cell? ⟨gb108, 3, none⟩ = some (.int .i64 0) := (blk_cell BK108.out 3).trans rfl; have hcz21_4 : w20.cell? ⟨gb108, 4, none⟩ = some (.int .i64 0) := (blk_cell BK108.out 4).trans rfl; have hcz21_5 : w20.cell? ⟨gb108, 5, none⟩ = some (.int .i64 0) := (blk_cell BK108.out 5).trans rfl; have hcz21_6 : w20.cell? ⟨gb108, 6, none⟩ = some (.int .i64 0) := (blk_cell BK108.out 6).trans rfl; have hfz21_0 := blk_frozen BK108.out 0; have hfz21_1 := blk_frozen BK108.out 1; have hfz21_2 := blk_frozen BK108.out 2; have hfz21_3 := blk_frozen BK108.out 3; have hfz21_4 := blk_frozen BK108.out 4; have hfz21_5 := blk_frozen BK108.out 5; have hfz21_6 := blk_frozen BK108.out 6)))
                  (try simp only [Act.put, List.setIfInBounds_toArray, List.set_cons_zero, List.set_cons_succ])
                  go_cut [104] (fun v104 wc => ∃ (kq : Nat) (x104_18 : Bool), v104 = .bool x104_18 ∧ Aside0 (emendationlaw05_WeaveAll.j2 kq l0 l1 l2 t104 x29_2 (t104.length : Int) x29_2 x104_18 ((rd_T75 t104 x29_2).f0.f0) ((rd_T75 t104 x29_2).f0.f1) ((rd_T75 t104 x29_2).f1.f0) ((rd_T75 t104 x29_2).f1.f1) ((rd_T75 t104 x29_2).f2.f0) ((rd_T75 t104 x29_2).f2.f1) ((rd_T75 t104 x29_2).f3) = some r) ∧ Aside0 (kq ≤ k2) ∧ Aside0 (Kd.R k75 75 wc w.heap.size (fun k_ => k_ ≠ gb108) (.slice (some ad107) t104.length co15) t104) ∧ Aside0 (wc.heap[gb108]? = some (.cells #[.int .i64 ((rd_T75 t104 x29_2).f0.f0), .int .i64 ((rd_T75 t104 x29_2).f0.f1), .int .i64 ((rd_T75 t104 x29_2).f1.f0), .int .i64 ((rd_T75 t104 x29_2).f1.f1), .int .i64 ((rd_T75 t104 x29_2).f2.f0), .int .i64 ((rd_T75 t104 x29_2).f2.f1), .int .i64 ((rd_T75 t104 x29_2).f3)] 75 (0, 0))) ∧ Aside0 (Below w.heap.size w wc))
                  case first =>
                    have H := HC19.out
                    clear HC19
                    by_cases c22 : ((rd_T75 t104 x29_2).f0.f0) = x8_2
                    · rw [if_pos c22] at H
                      have c22b0 : (((rd_T75 t104 x29_2).f0.f0) == x8_2) = true := beq_iff_eq.mpr c22
                      have c22b1 : (((rd_T75 t104 x29_2).f0.f0) != x8_2) = false := bne_eq_false_iff_eq.mpr c22
                      clear c22
                      (first | rw [c22b0] | (simp only [i64_w, i32_w]; rw [c22b0]) | skip)
                      by_cases c23 : ((rd_T75 t104 x29_2).f1.f0) = x9_2
                      · rw [if_pos c23] at H
                        have c23b0 : (((rd_T75 t104 x29_2).f1.f0) == x9_2) = true := beq_iff_eq.mpr c23
                        have c23b1 : (((rd_T75 t104 x29_2).f1.f0) != x9_2) = false := bne_eq_false_iff_eq.mpr c23
                        clear c23
                        by_cases c24 : ((rd_T75 t104 x29_2).f2.f0) = x10_2
                        · rw [if_pos c24] at H
                          have c24b0 : (((rd_T75 t104 x29_2).f2.f0) == x10_2) = true := beq_iff_eq.mpr c24
                          have c24b1 : (((rd_T75 t104 x29_2).f2.f0) != x10_2) = false := bne_eq_false_iff_eq.mpr c24
                          clear c24
                          by_cases c25 : ((rd_T75 t104 x29_2).f0.f1) < x8_2
                          · rw [if_pos c25] at H
                            have c25b0 : decide (((rd_T75 t104 x29_2).f0.f1) < x8_2) = true := decide_eq_true c25
                            clear c25
                            have H' := Aside0.mk H
                            clear H
                            have hcz26_0 : w20.cell? ⟨gb108, 0, none⟩ = some (.int .i64 0) := (blk_cell BK108.out 0).trans rfl
                            have hcz26_1 : w20.cell? ⟨gb108, 1, none⟩ = some (.int .i64 0) := (blk_cell BK108.out 1).trans rfl
                            have hcz26_2 : w20.cell? ⟨gb108, 2, none⟩ = some (.int .i64 0) := (blk_cell BK108.out 2).trans rfl
                            have hcz26_3 : w20.cell? ⟨gb108, 3, none⟩ = some (.int .i64 0) := (blk_cell BK108.out 3).trans rfl
                            have hcz26_4 : w20.cell? ⟨gb108, 4, none⟩ = some (.int .i64 0) := (blk_cell BK108.out 4).trans rfl
                            have hcz26_5 : w20.cell? ⟨gb108, 5, none⟩ = some (.int .i64 0) := (blk_cell BK108.out 5).trans rfl
                            have hcz26_6 : w20.cell? ⟨gb108, 6, none⟩ = some (.int .i64 0) := (blk_cell BK108.out 6).trans rfl
                            have hfz26_0 := blk_frozen BK108.out 0
                            have hfz26_1 := blk_frozen BK108.out 1
                            have hfz26_2 := blk_frozen BK108.out 2
                            have hfz26_3 := blk_frozen BK108.out 3
                            have hfz26_4 := blk_frozen BK108.out 4
                            have hfz26_5 := blk_frozen BK108.out 5
                            have hfz26_6 := blk_frozen BK108.out 6
                            go_wp2
                            repeat (go_quiet (fail); try go_wp2)
                            go_meet
                            case rel => exact ⟨_, (true), (by first | rfl | (simp; done) | (simp [*]; done)), H', ⟨by have := HJ3.out; have := HK2.out; first | omega | exact Nat.le_refl _⟩, ⟨by (with_reducible repeat (first | apply Kd.R_alloc | apply Kd.R_drewN | apply Kd.R_drew)); exact Kd.R_mono (Kd.R_far (p := ⟨gb108, 6, none⟩) (Kd.R_far (p := ⟨gb108, 5, none⟩) (Kd.R_far (p := ⟨gb108, 4, none⟩) (Kd.R_far (p := ⟨gb108, 3, none⟩) (Kd.R_far (p := ⟨gb108, 2, none⟩) (Kd.R_far (p := ⟨gb108, 1, none⟩) (Kd.R_far (p := ⟨gb108, 0, none⟩) (Kd.R_mono HO_7.out (fun k_ hk => (⟨hk, hk.2⟩ : _ ∧ k_ ≠ gb108))) (fun _ hk => hk.2) (.int .i64 ((rd_T75 t104 x29_2).f0.f0))) (fun _ hk => hk.2) (.int .i64 ((rd_T75 t104 x29_2).f0.f1))) (fun _ hk => hk.2) (.int .i64 ((rd_T75 t104 x29_2).f1.f0))) (fun _ hk => hk.2) (.int .i64 ((rd_T75 t104 x29_2).f1.f1))) (fun _ hk => hk.2) (.int .i64 ((rd_T75 t104 x29_2).f2.f0))) (fun _ hk => hk.2) (.int .i64 ((rd_T75 t104 x29_2).f2.f1))) (fun _ hk => hk.2) (.int .i64 ((rd_T75 t104 x29_2).f3))) (fun _ hk => hk.1.2)⟩, ⟨by (with_reducible repeat (first | refine blk_drewN ?_ _ | refine blk_drew ?_ | refine blk_alloc ?_ _)); refine blk_put (cs := #[.int .i64 ((rd_T75 t104 x29_2).f0.f0), .int .i64 ((rd_T75 t104 x29_2).f0.f1), .int .i64 ((rd_T75 t104 x29_2).f1.f0), .int .i64 ((rd_T75 t104 x29_2).f1.f1), .int .i64 ((rd_T75 t104 x29_2).f2.f0), .int .i64 ((rd_T75 t104 x29_2).f2.f1), .int .i64 0]) ?_ 6 _ rfl; (with_reducible repeat (first | refine blk_drewN ?_ _ | refine blk_drew ?_ | refine blk_alloc ?_ _)); refine blk_put (cs := #[.int .i64 ((rd_T75 t104 x29_2).f0.f0), .int .i64 ((rd_T75 t104 x29_2).f0.f1), .int .i64 ((rd_T75 t104 x29_2).f1.f0), .int .i64 ((rd_T75 t104 x29_2).f1.f1), .int .i64 ((rd_T75 t104 x29_2).f2.f0), .int .i64 0, .int .i64 0]) ?_ 5 _ rfl; (with_reducible repeat (first | refine blk_drewN ?_ _ | refine blk_drew ?_ | refine blk_alloc ?_ _)); refine blk_put (cs := #[.int .i64 ((rd_T75 t104 x29_2).f0.f0), .int .i64 ((rd_T75 t104 x29_2).f0.f1), .int .i64 ((rd_T75 t104 x29_2).f1.f0), .int .i64 ((rd_T75 t104 x29_2).f1.f1), .int .i64 0, .int .i64 0, .int .i64 0]) ?_ 4 _ rfl; (with_reducible repeat (first | refine blk_drewN ?_ _ | refine blk_drew ?_ | refine blk_alloc ?_ _)); refine blk_put (cs := #[.int .i64 ((rd_T75 t104 x29_2).f0.f0), .int .i64 ((rd_T75 t104 x29_2).f0.f1), .int .i64 ((rd_T75 t104 x29_2).f1.f0), .int .i64 0, .int .i64 0, .int .i64 0, .int .i64 0]) ?_ 3 _ rfl; (with_reducible repeat (first | refine blk_drewN ?_ _ | refine blk_drew ?_ | refine blk_alloc ?_ _)); refine blk_put (cs := #[.int .i64 ((rd_T75 t104 x29_2).f0.f0), .int .i64 ((rd_T75 t104 x29_2).f0.f1), .int .i64 0, .int .i64 0, .int .i64 0, .int .i64 0, .int .i64 0]) ?_ 2 _ rfl; (with_reducible repeat (first | refine blk_drewN ?_ _ | refine blk_drew ?_ | refine blk_alloc ?_ _)); refine blk_put (cs := #[.int .i64 ((rd_T75 t104 x29_2).f0.f0), .int .i64 0, .int .i64 0, .int .i64 0, .int .i64 0, .int .i64 0, .int .i64 0]) ?_ 1 _ rfl; (with_reducible repeat (first | refine blk_drewN ?_ _ | refine blk_drew ?_ | refine blk_alloc ?_ _)); refine blk_put (cs := #[.int .i64 0, .int .i64 0, .int .i64 0, .int .i64 0, .int .i64 0, .int .i64 0, .int .i64 0]) ?_ 0 _ rfl; (with_reducible repeat (first | refine blk_drewN ?_ _ | refine blk_drew ?_ | refine blk_alloc ?_ _)); exact BK108.out⟩, ⟨by repeat (first | (with_reducible first | exact HB.out | apply below_alloc | apply pw_below_drewN | apply below_drew1 | refine below_set ?_ GE108.out) | exact HB.out)⟩⟩
                          · rw [if_neg c25] at H
                            have c25b0 : decide (((rd_T75 t104 x29_2).f0.f1) < x8_2) = false := decide_eq_false c25
                            clear c25
                            by_cases c27 : ((rd_T75 t104 x29_2).f1.f1) < x9_2
                            · rw [if_pos c27] at H
                              have c27b0 : decide (((rd_T75 t104 x29_2).f1.f1) < x9_2) = true := decide_eq_true c27
                              clear c27
                              have H' := Aside0.mk H
                              clear H
                              have hcz28_0 : w20.cell? ⟨gb108, 0, none⟩ = some (.int .i64 0) := (blk_cell BK108.out 0).trans rfl
                              have hcz28_1 : w20.cell? ⟨gb108, 1, none⟩ = some (.int .i64 0) := (blk_cell BK108.out 1).trans rfl
                              have hcz28_2 : w20.cell? ⟨gb108, 2, none⟩ = some (.int .i64 0) := (blk_cell BK108.out 2).trans rfl
                              have hcz28_3 : w20.cell? ⟨gb108, 3, none⟩ = some (.int .i64 0) := (blk_cell BK108.out 3).trans rfl
                              have hcz28_4 : w20.cell? ⟨gb108, 4, none⟩ = some (.int .i64 0) := (blk_cell BK108.out 4).trans rfl
                              have hcz28_5 : w20.cell? ⟨gb108, 5, none⟩ = some (.int .i64 0) := (blk_cell BK108.out 5).trans rfl
                              have hcz28_6 : w20.cell? ⟨gb108, 6, none⟩ = some (.int .i64 0) := (blk_cell BK108.out 6).trans rfl
                              have hfz28_0 := blk_frozen BK108.out 0
                              have hfz28_1 := blk_frozen BK108.out 1
                              have hfz28_2 := blk_frozen BK108.out 2
                              have hfz28_3 := blk_frozen BK108.out 3
                              have hfz28_4 := blk_frozen BK108.out 4
                              have hfz28_5 := blk_frozen BK108.out 5
                              have hfz28_6 := blk_frozen BK108.out 6
                              go_wp2
                              repeat (go_quiet (fail); try go_wp2)
                              go_meet
                              case rel => exact ⟨_, (true), (by first | rfl | (simp; done) | (simp [*]; done)), H', ⟨by have := HJ3.out; have := HK2.out; first | omega | exact Nat.le_refl _⟩, ⟨by (with_reducible repeat (first | apply Kd.R_alloc | apply Kd.R_drewN | apply Kd.R_drew)); exact Kd.R_mono (Kd.R_far (p := ⟨gb108, 6, none⟩) (Kd.R_far (p := ⟨gb108, 5, none⟩) (Kd.R_far (p := ⟨gb108, 4, none⟩) (Kd.R_far (p := ⟨gb108, 3, none⟩) (Kd.R_far (p := ⟨gb108, 2, none⟩) (Kd.R_far (p := ⟨gb108, 1, none⟩) (Kd.R_far (p := ⟨gb108, 0, none⟩) (Kd.R_mono HO_7.out (fun k_ hk => (⟨hk, hk.2⟩ : _ ∧ k_ ≠ gb108))) (fun _ hk => hk.2) (.int .i64 ((rd_T75 t104 x29_2).f0.f0))) (fun _ hk => hk.2) (.int .i64 ((rd_T75 t104 x29_2).f0.f1))) (fun _ hk => hk.2) (.int .i64 ((rd_T75 t104 x29_2).f1.f0))) (fun _ hk => hk.2) (.int .i64 ((rd_T75 t104 x29_2).f1.f1))) (fun _ hk => hk.2) (.int .i64 ((rd_T75 t104 x29_2).f2.f0))) (fun _ hk => hk.2) (.int .i64 ((rd_T75 t104 x29_2).f2.f1))) (fun _ hk => hk.2) (.int .i64 ((rd_T75 t104 x29_2).f3))) (fun _ hk => hk.1.2)⟩, ⟨by (with_reducible repeat (first | refine blk_drewN ?_ _ | refine blk_drew ?_ | refine blk_alloc ?_ _)); refine blk_put (cs := #[.int .i64 ((rd_T75 t104 x29_2).f0.f0), .int .i64 ((rd_T75 t104 x29_2).f0.f1), .int .i64 ((rd_T75 t104 x29_2).f1.f0), .int .i64 ((rd_T75 t104 x29_2).f1.f1), .int .i64 ((rd_T75 t104 x29_2).f2.f0), .int .i64 ((rd_T75 t104 x29_2).f2.f1), .int .i64 0]) ?_ 6 _ rfl; (with_reducible repeat (first | refine blk_drewN ?_ _ | refine blk_drew ?_ | refine blk_alloc ?_ _)); refine blk_put (cs := #[.int .i64 ((rd_T75 t104 x29_2).f0.f0), .int .i64 ((rd_T75 t104 x29_2).f0.f1), .int .i64 ((rd_T75 t104 x29_2).f1.f0), .int .i64 ((rd_T75 t104 x29_2).f1.f1), .int .i64 ((rd_T75 t104 x29_2).f2.f0), .int .i64 0, .int .i64 0]) ?_ 5 _ rfl; (with_reducible repeat (first | refine blk_drewN ?_ _ | refine blk_drew ?_ | refine blk_alloc ?_ _)); refine blk_put (cs := #[.int .i64 ((rd_T75 t104 x29_2).f0.f0), .int .i64 ((rd_T75 t104 x29_2).f0.f1), .int .i64 ((rd_T75 t104 x29_2).f1.f0), .int .i64 ((rd_T75 t104 x29_2).f1.f1), .int .i64 0, .int .i64 0, .int .i64 0]) ?_ 4 _ rfl; (with_reducible repeat (first | refine blk_drewN ?_ _ | refine blk_drew ?_ | refine blk_alloc ?_ _)); refine blk_put (cs := #[.int .i64 ((rd_T75 t104 x29_2).f0.f0), .int .i64 ((rd_T75 t104 x29_2).f0.f1), .int .i64 ((rd_T75 t104 x29_2).f1.f0), .int .i64 0, .int .i64 0, .int .i64 0, .int .i64 0]) ?_ 3 _ rfl; (with_reducible repeat (first | refine blk_drewN ?_ _ | refine blk_drew ?_ | refine blk_alloc ?_ _)); refine blk_put (cs := #[.int .i64 ((rd_T75 t104 x29_2).f0.f0), .int .i64 ((rd_T75 t104 x29_2).f0.f1), .int .i64 0, .int .i64 0, .int .i64 0, .int .i64 0, .int .i64 0]) ?_ 2 _ rfl; (with_reducible repeat (first | refine blk_drewN ?_ _ | refine blk_drew ?_ | refine blk_alloc ?_ _)); refine blk_put (cs := #[.int .i64 ((rd_T75 t104 x29_2).f0.f0), .int .i64 0, .int .i64 0, .int .i64 0, .int .i64 0, .int .i64 0, .int .i64 0]) ?_ 1 _ rfl; (with_reducible repeat (first | refine blk_drewN ?_ _ | refine blk_drew ?_ | refine blk_alloc ?_ _)); refine blk_put (cs := #[.int .i64 0, .int .i64 0, .int .i64 0, .int .i64 0, .int .i64 0, .int .i64 0, .int .i64 0]) ?_ 0 _ rfl; (with_reducible repeat (first | refine blk_drewN ?_ _ | refine blk_drew ?_ | refine blk_alloc ?_ _)); exact BK108.out⟩, ⟨by repeat (first | (with_reducible first | exact HB.out | apply below_alloc | apply pw_below_drewN | apply below_drew1 | refine below_set ?_ GE108.out) | exact HB.out)⟩⟩
                            · rw [if_neg c27] at H
                              have c27b0 : decide (((rd_T75 t104 x29_2).f1.f1) < x9_2) = false := decide_eq_false c27
                              clear c27
                              by_cases c29 : ((rd_T75 t104 x29_2).f2.f1) < x10_2
                              · rw [if_pos c29] at H
                                have c29b0 : decide (((rd_T75 t104 x29_2).f2.f1) < x10_2) = true := decide_eq_true c29
                                clear c29
                                have H' := Aside0.mk H
                                clear H
                                have hcz30_0 : w20.cell? ⟨gb108, 0, none⟩ = some (.int .i64 0) := (blk_cell BK108.out 0).trans rfl
                                have hcz30_1 : w20.cell? ⟨gb108, 1, none⟩ = some (.int .i64 0) := (blk_cell BK108.out 1).trans rfl
                                have hcz30_2 : w20.cell? ⟨gb108, 2, none⟩ = some (.int .i64 0) := (blk_cell BK108.out 2).trans rfl
                                have hcz30_3 : w20.cell? ⟨gb108, 3, none⟩ = some (.int .i64 0) := (blk_cell BK108.out 3).trans rfl
                                have hcz30_4 : w20.cell? ⟨gb108, 4, none⟩ = some (.int .i64 0) := (blk_cell BK108.out 4).trans rfl
                                have hcz30_5 : w20.cell? ⟨gb108, 5, none⟩ = some (.int .i64 0) := (blk_cell BK108.out 5).trans rfl
                                have hcz30_6 : w20.cell? ⟨gb108, 6, none⟩ = some (.int .i64 0) := (blk_cell BK108.out 6).trans rfl
                                have hfz30_0 := blk_frozen BK108.out 0
                                have hfz30_1 := blk_frozen BK108.out 1
                                have hfz30_2 := blk_frozen BK108.out 2
                                have hfz30_3 := blk_frozen BK108.out 3
                                have hfz30_4 := blk_frozen BK108.out 4
                                have hfz30_5 := blk_frozen BK108.out 5
                                have hfz30_6 := blk_frozen BK108.out 6
                                go_wp2
                                repeat (go_quiet (fail); try go_wp2)
                                go_meet
                                case rel => exact ⟨_, (true), (by first | rfl | (simp; done) | (simp [*]; done)), H', ⟨by have := HJ3.out; have := HK2.out; first | omega | exact Nat.le_refl _⟩, ⟨by (with_reducible repeat (first | apply Kd.R_alloc | apply Kd.R_drewN | apply Kd.R_drew)); exact Kd.R_mono (Kd.R_far (p := ⟨gb108, 6, none⟩) (Kd.R_far (p := ⟨gb108, 5, none⟩) (Kd.R_far (p := ⟨gb108, 4, none⟩) (Kd.R_far (p := ⟨gb108, 3, none⟩) (Kd.R_far (p := ⟨gb108, 2, none⟩) (Kd.R_far (p := ⟨gb108, 1, none⟩) (Kd.R_far (p := ⟨gb108, 0, none⟩) (Kd.R_mono HO_7.out (fun k_ hk => (⟨hk, hk.2⟩ : _ ∧ k_ ≠ gb108))) (fun _ hk => hk.2) (.int .i64 ((rd_T75 t104 x29_2).f0.f0))) (fun _ hk => hk.2) (.int .i64 ((rd_T75 t104 x29_2).f0.f1))) (fun _ hk => hk.2) (.int .i64 ((rd_T75 t104 x29_2).f1.f0))) (fun _ hk => hk.2) (.int .i64 ((rd_T75 t104 x29_2).f1.f1))) (fun _ hk => hk.2) (.int .i64 ((rd_T75 t104 x29_2).f2.f0))) (fun _ hk => hk.2) (.int .i64 ((rd_T75 t104 x29_2).f2.f1))) (fun _ hk => hk.2) (.int .i64 ((rd_T75 t104 x29_2).f3))) (fun _ hk => hk.1.2)⟩, ⟨by (with_reducible repeat (first | refine blk_drewN ?_ _ | refine blk_drew ?_ | refine blk_alloc ?_ _)); refine blk_put (cs := #[.int .i64 ((rd_T75 t104 x29_2).f0.f0), .int .i64 ((rd_T75 t104 x29_2).f0.f1), .int .i64 ((rd_T75 t104 x29_2).f1.f0), .int .i64 ((rd_T75 t104 x29_2).f1.f1), .int .i64 ((rd_T75 t104 x29_2).f2.f0), .int .i64 ((rd_T75 t104 x29_2).f2.f1), .int .i64 0]) ?_ 6 _ rfl; (with_reducible repeat (first | refine blk_drewN ?_ _ | refine blk_drew ?_ | refine blk_alloc ?_ _)); refine blk_put (cs := #[.int .i64 ((rd_T75 t104 x29_2).f0.f0), .int .i64 ((rd_T75 t104 x29_2).f0.f1), .int .i64 ((rd_T75 t104 x29_2).f1.f0), .int .i64 ((rd_T75 t104 x29_2).f1.f1), .int .i64 ((rd_T75 t104 x29_2).f2.f0), .int .i64 0, .int .i64 0]) ?_ 5 _ rfl; (with_reducible repeat (first | refine blk_drewN ?_ _ | refine blk_drew ?_ | refine blk_alloc ?_ _)); refine blk_put (cs := #[.int .i64 ((rd_T75 t104 x29_2).f0.f0), .int .i64 ((rd_T75 t104 x29_2).f0.f1), .int .i64 ((rd_T75 t104 x29_2).f1.f0), .int .i64 ((rd_T75 t104 x29_2).f1.f1), .int .i64 0, .int .i64 0, .int .i64 0]) ?_ 4 _ rfl; (with_reducible repeat (first | refine blk_drewN ?_ _ | refine blk_drew ?_ | refine blk_alloc ?_ _)); refine blk_put (cs := #[.int .i64 ((rd_T75 t104 x29_2).f0.f0), .int .i64 ((rd_T75 t104 x29_2).f0.f1), .int .i64 ((rd_T75 t104 x29_2).f1.f0), .int .i64 0, .int .i64 0, .int .i64 0, .int .i64 0]) ?_ 3 _ rfl; (with_reducible repeat (first | refine blk_drewN ?_ _ | refine blk_drew ?_ | refine blk_alloc ?_ _)); refine blk_put (cs := #[.int .i64 ((rd_T75 t104 x29_2).f0.f0), .int .i64 ((rd_T75 t104 x29_2).f0.f1), .int .i64 0, .int .i64 0, .int .i64 0, .int .i64 0, .int .i64 0]) ?_ 2 _ rfl; (with_reducible repeat (first | refine blk_drewN ?_ _ | refine blk_drew ?_ | refine blk_alloc ?_ _)); refine blk_put (cs := #[.int .i64 ((rd_T75 t104 x29_2).f0.f0), .int .i64 0, .int .i64 0, .int .i64 0, .int .i64 0, .int .i64 0, .int .i64 0]) ?_ 1 _ rfl; (with_reducible repeat (first | refine blk_drewN ?_ _ | refine blk_drew ?_ | refine blk_alloc ?_ _)); refine blk_put (cs := #[.int .i64 0, .int .i64 0, .int .i64 0, .int .i64 0, .int .i64 0, .int .i64 0, .int .i64 0]) ?_ 0 _ rfl; (with_reducible repeat (first | refine blk_drewN ?_ _ | refine blk_drew ?_ | refine blk_alloc ?_ _)); exact BK108.out⟩, ⟨by repeat (first | (with_reducible first | exact HB.out | apply below_alloc | apply pw_below_drewN | apply below_drew1 | refine below_set ?_ GE108.out) | exact HB.out)⟩⟩
                              · rw [if_neg c29] at H
                                have c29b0 : decide (((rd_T75 t104 x29_2).f2.f1) < x10_2) = false := decide_eq_false c29
                                clear c29
                                by_cases c31 : (wrap64 ((wrap64 (((rd_T75 t104 x29_2).f0.f1) + ((rd_T75 t104 x29_2).f1.f1))) + ((rd_T75 t104 x29_2).f2.f1))) = (wrap64 ((wrap64 (x8_2 + x9_2)) + x10_2))
                                · rw [if_pos c31] at H
                                  have c31b0 : ((wrap64 ((wrap64 (((rd_T75 t104 x29_2).f0.f1) + ((rd_T75 t104 x29_2).f1.f1))) + ((rd_T75 t104 x29_2).f2.f1))) == (wrap64 ((wrap64 (x8_2 + x9_2)) + x10_2))) = true := beq_iff_eq.mpr c31
                                  have c31b1 : ((wrap64 ((wrap64 (((rd_T75 t104 x29_2).f0.f1) + ((rd_T75 t104 x29_2).f1.f1))) + ((rd_T75 t104 x29_2).f2.f1))) != (wrap64 ((wrap64 (x8_2 + x9_2)) + x10_2))) = false := bne_eq_false_iff_eq.mpr c31
                                  clear c31
                                  have H' := Aside0.mk H
                                  clear H
                                  have hcz32_0 : w20.cell? ⟨gb108, 0, none⟩ = some (.int .i64 0) := (blk_cell BK108.out 0).trans rfl
                                  have hcz32_1 : w20.cell? ⟨gb108, 1, none⟩ = some (.int .i64 0) := (blk_cell BK108.out 1).trans rfl
                                  have hcz32_2 : w20.cell? ⟨gb108, 2, none⟩ = some (.int .i64 0) := (blk_cell BK108.out 2).trans rfl
                                  have hcz32_3 : w20.cell? ⟨gb108, 3, none⟩ = some (.int .i64 0) := (blk_cell BK108.out 3).trans rfl
                                  have hcz32_4 : w20.cell? ⟨gb108, 4, none⟩ = some (.int .i64 0) := (blk_cell BK108.out 4).trans rfl
                                  have hcz32_5 : w20.cell? ⟨gb108, 5, none⟩ = some (.int .i64 0) := (blk_cell BK108.out 5).trans rfl
                                  have hcz32_6 : w20.cell? ⟨gb108, 6, none⟩ = some (.int .i64 0) := (blk_cell BK108.out 6).trans rfl
                                  have hfz32_0 := blk_frozen BK108.out 0
                                  have hfz32_1 := blk_frozen BK108.out 1
                                  have hfz32_2 := blk_frozen BK108.out 2
                                  have hfz32_3 := blk_frozen BK108.out 3
                                  have hfz32_4 := blk_frozen BK108.out 4
                                  have hfz32_5 := blk_frozen BK108.out 5
                                  have hfz32_6 := blk_frozen BK108.out 6
                                  go_wp2
                                  repeat (go_quiet (fail); try go_wp2)
                                  go_meet
                                  case rel => exact ⟨_, (true), (by first | rfl | (simp; done) | (simp [*]; done)), H', ⟨by have := HJ3.out; have := HK2.out; first | omega | exact Nat.le_refl _⟩, ⟨by (with_reducible repeat (first | apply Kd.R_alloc | apply Kd.R_drewN | apply Kd.R_drew)); exact Kd.R_mono (Kd.R_far (p := ⟨gb108, 6, none⟩) (Kd.R_far (p := ⟨gb108, 5, none⟩) (Kd.R_far (p := ⟨gb108, 4, none⟩) (Kd.R_far (p := ⟨gb108, 3, none⟩) (Kd.R_far (p := ⟨gb108, 2, none⟩) (Kd.R_far (p := ⟨gb108, 1, none⟩) (Kd.R_far (p := ⟨gb108, 0, none⟩) (Kd.R_mono HO_7.out (fun k_ hk => (⟨hk, hk.2⟩ : _ ∧ k_ ≠ gb108))) (fun _ hk => hk.2) (.int .i64 ((rd_T75 t104 x29_2).f0.f0))) (fun _ hk => hk.2) (.int .i64 ((rd_T75 t104 x29_2).f0.f1))) (fun _ hk => hk.2) (.int .i64 ((rd_T75 t104 x29_2).f1.f0))) (fun _ hk => hk.2) (.int .i64 ((rd_T75 t104 x29_2).f1.f1))) (fun _ hk => hk.2) (.int .i64 ((rd_T75 t104 x29_2).f2.f0))) (fun _ hk => hk.2) (.int .i64 ((rd_T75 t104 x29_2).f2.f1))) (fun _ hk => hk.2) (.int .i64 ((rd_T75 t104 x29_2).f3))) (fun _ hk => hk.1.2)⟩, ⟨by (with_reducible repeat (first | refine blk_drewN ?_ _ | refine blk_drew ?_ | refine blk_alloc ?_ _)); refine blk_put (cs := #[.int .i64 ((rd_T75 t104 x29_2).f0.f0), .int .i64 ((rd_T75 t104 x29_2).f0.f1), .int .i64 ((rd_T75 t104 x29_2).f1.f0), .int .i64 ((rd_T75 t104 x29_2).f1.f1), .int .i64 ((rd_T75 t104 x29_2).f2.f0), .int .i64 ((rd_T75 t104 x29_2).f2.f1), .int .i64 0]) ?_ 6 _ rfl; (with_reducible repeat (first | refine blk_drewN ?_ _ | refine blk_drew ?_ | refine blk_alloc ?_ _)); refine blk_put (cs := #[.int .i64 ((rd_T75 t104 x29_2).f0.f0), .int .i64 ((rd_T75 t104 x29_2).f0.f1), .int .i64 ((rd_T75 t104 x29_2).f1.f0), .int .i64 ((rd_T75 t104 x29_2).f1.f1), .int .i64 ((rd_T75 t104 x29_2).f2.f0), .int .i64 0, .int .i64 0]) ?_ 5 _ rfl; (with_reducible repeat (first | refine blk_drewN ?_ _ | refine blk_drew ?_ | refine blk_alloc ?_ _)); refine blk_put (cs := #[.int .i64 ((rd_T75 t104 x29_2).f0.f0), .int .i64 ((rd_T75 t104 x29_2).f0.f1), .int .i64 ((rd_T75 t104 x29_2).f1.f0), .int .i64 ((rd_T75 t104 x29_2).f1.f1), .int .i64 0, .int .i64 0, .int .i64 0]) ?_ 4 _ rfl; (with_reducible repeat (first | refine blk_drewN ?_ _ | refine blk_drew ?_ | refine blk_alloc ?_ _)); refine blk_put (cs := #[.int .i64 ((rd_T75 t104 x29_2).f0.f0), .int .i64 ((rd_T75 t104 x29_2).f0.f1), .int .i64 ((rd_T75 t104 x29_2).f1.f0), .int .i64 0, .int .i64 0, .int .i64 0, .int .i64 0]) ?_ 3 _ rfl; (with_reducible repeat (first | refine blk_drewN ?_ _ | refine blk_drew ?_ | refine blk_alloc ?_ _)); refine blk_put (cs := #[.int .i64 ((rd_T75 t104 x29_2).f0.f0), .int .i64 ((rd_T75 t104 x29_2).f0.f1), .int .i64 0, .int .i64 0, .int .i64 0, .int .i64 0, .int .i64 0]) ?_ 2 _ rfl; (with_reducible repeat (first | refine blk_drewN ?_ _ | refine blk_drew ?_ | refine blk_alloc ?_ _)); refine blk_put (cs := #[.int .i64 ((rd_T75 t104 x29_2).f0.f0), .int .i64 0, .int .i64 0, .int .i64 0, .int .i64 0, .int .i64 0, .int .i64 0]) ?_ 1 _ rfl; (with_reducible repeat (first | refine blk_drewN ?_ _ | refine blk_drew ?_ | refine blk_alloc ?_ _)); refine blk_put (cs := #[.int .i64 0, .int .i64 0, .int .i64 0, .int .i64 0, .int .i64 0, .int .i64 0, .int .i64 0]) ?_ 0 _ rfl; (with_reducible repeat (first | refine blk_drewN ?_ _ | refine blk_drew ?_ | refine blk_alloc ?_ _)); exact BK108.out⟩, ⟨by repeat (first | (with_reducible first | exact HB.out | apply below_alloc | apply pw_below_drewN | apply below_drew1 | refine below_set ?_ GE108.out) | exact HB.out)⟩⟩
                                · rw [if_neg c31] at H
                                  have c31b0 : ((wrap64 ((wrap64 (((rd_T75 t104 x29_2).f0.f1) + ((rd_T75 t104 x29_2).f1.f1))) + ((rd_T75 t104 x29_2).f2.f1))) == (wrap64 ((wrap64 (x8_2 + x9_2)) + x10_2))) = false := beq_eq_false_iff_ne.mpr c31
                                  have c31b1 : ((wrap64 ((wrap64 (((rd_T75 t104 x29_2).f0.f1) + ((rd_T75 t104 x29_2).f1.f1))) + ((rd_T75 t104 x29_2).f2.f1))) != (wrap64 ((wrap64 (x8_2 + x9_2)) + x10_2))) = true := bne_iff_ne.mpr c31
                                  by_cases c33 : ((rd_T75 t104 x29_2).f3) < 1
                                  · rw [if_pos c33] at H
                                    have c33b0 : decide (((rd_T75 t104 x29_2).f3) < 1) = true := decide_eq_true c33
                                    clear c33
                                    have H' := Aside0.mk H
                                    clear H
                                    have hcz34_0 : w20.cell? ⟨gb108, 0, none⟩ = some (.int .i64 0) := (blk_cell BK108.out 0).trans rfl
                                    have hcz34_1 : w20.cell? ⟨gb108, 1, none⟩ = some (.int .i64 0) := (blk_cell BK108.out 1).trans rfl
                                    have hcz34_2 : w20.cell? ⟨gb108, 2, none⟩ = some (.int .i64 0) := (blk_cell BK108.out 2).trans rfl
                                    have hcz34_3 : w20.cell? ⟨gb108, 3, none⟩ = some (.int .i64 0) := (blk_cell BK108.out 3).trans rfl
                                    have hcz34_4 : w20.cell? ⟨gb108, 4, none⟩ = some (.int .i64 0) := (blk_cell BK108.out 4).trans rfl
                                    have hcz34_5 : w20.cell? ⟨gb108, 5, none⟩ = some (.int .i64 0) := (blk_cell BK108.out 5).trans rfl
                                    have hcz34_6 : w20.cell? ⟨gb108, 6, none⟩ = some (.int .i64 0) := (blk_cell BK108.out 6).trans rfl
                                    have hfz34_0 := blk_frozen BK108.out 0
                                    have hfz34_1 := blk_frozen BK108.out 1
                                    have hfz34_2 := blk_frozen BK108.out 2
                                    have hfz34_3 := blk_frozen BK108.out 3
                                    have hfz34_4 := blk_frozen BK108.out 4
                                    have hfz34_5 := blk_frozen BK108.out 5
                                    have hfz34_6 := blk_frozen BK108.out 6
                                    go_wp2
                                    repeat (go_quiet (fail); try go_wp2)
                                    go_meet
                                    case rel => exact ⟨_, (true), (by first | rfl | (simp; done) | (simp [*]; done)), H', ⟨by have := HJ3.out; have := HK2.out; first | omega | exact Nat.le_refl _⟩, ⟨by (with_reducible repeat (first | apply Kd.R_alloc | apply Kd.R_drewN | apply Kd.R_drew)); exact Kd.R_mono (Kd.R_far (p := ⟨gb108, 6, none⟩) (Kd.R_far (p := ⟨gb108, 5, none⟩) (Kd.R_far (p := ⟨gb108, 4, none⟩) (Kd.R_far (p := ⟨gb108, 3, none⟩) (Kd.R_far (p := ⟨gb108, 2, none⟩) (Kd.R_far (p := ⟨gb108, 1, none⟩) (Kd.R_far (p := ⟨gb108, 0, none⟩) (Kd.R_mono HO_7.out (fun k_ hk => (⟨hk, hk.2⟩ : _ ∧ k_ ≠ gb108))) (fun _ hk => hk.2) (.int .i64 ((rd_T75 t104 x29_2).f0.f0))) (fun _ hk => hk.2) (.int .i64 ((rd_T75 t104 x29_2).f0.f1))) (fun _ hk => hk.2) (.int .i64 ((rd_T75 t104 x29_2).f1.f0))) (fun _ hk => hk.2) (.int .i64 ((rd_T75 t104 x29_2).f1.f1))) (fun _ hk => hk.2) (.int .i64 ((rd_T75 t104 x29_2).f2.f0))) (fun _ hk => hk.2) (.int .i64 ((rd_T75 t104 x29_2).f2.f1))) (fun _ hk => hk.2) (.int .i64 ((rd_T75 t104 x29_2).f3))) (fun _ hk => hk.1.2)⟩, ⟨by (with_reducible repeat (first | refine blk_drewN ?_ _ | refine blk_drew ?_ | refine blk_alloc ?_ _)); refine blk_put (cs := #[.int .i64 ((rd_T75 t104 x29_2).f0.f0), .int .i64 ((rd_T75 t104 x29_2).f0.f1), .int .i64 ((rd_T75 t104 x29_2).f1.f0), .int .i64 ((rd_T75 t104 x29_2).f1.f1), .int .i64 ((rd_T75 t104 x29_2).f2.f0), .int .i64 ((rd_T75 t104 x29_2).f2.f1), .int .i64 0]) ?_ 6 _ rfl; (with_reducible repeat (first | refine blk_drewN ?_ _ | refine blk_drew ?_ | refine blk_alloc ?_ _)); refine blk_put (cs := #[.int .i64 ((rd_T75 t104 x29_2).f0.f0), .int .i64 ((rd_T75 t104 x29_2).f0.f1), .int .i64 ((rd_T75 t104 x29_2).f1.f0), .int .i64 ((rd_T75 t104 x29_2).f1.f1), .int .i64 ((rd_T75 t104 x29_2).f2.f0), .int .i64 0, .int .i64 0]) ?_ 5 _ rfl; (with_reducible repeat (first | refine blk_drewN ?_ _ | refine blk_drew ?_ | refine blk_alloc ?_ _)); refine blk_put (cs := #[.int .i64 ((rd_T75 t104 x29_2).f0.f0), .int .i64 ((rd_T75 t104 x29_2).f0.f1), .int .i64 ((rd_T75 t104 x29_2).f1.f0), .int .i64 ((rd_T75 t104 x29_2).f1.f1), .int .i64 0, .int .i64 0, .int .i64 0]) ?_ 4 _ rfl; (with_reducible repeat (first | refine blk_drewN ?_ _ | refine blk_drew ?_ | refine blk_alloc ?_ _)); refine blk_put (cs := #[.int .i64 ((rd_T75 t104 x29_2).f0.f0), .int .i64 ((rd_T75 t104 x29_2).f0.f1), .int .i64 ((rd_T75 t104 x29_2).f1.f0), .int .i64 0, .int .i64 0, .int .i64 0, .int .i64 0]) ?_ 3 _ rfl; (with_reducible repeat (first | refine blk_drewN ?_ _ | refine blk_drew ?_ | refine blk_alloc ?_ _)); refine blk_put (cs := #[.int .i64 ((rd_T75 t104 x29_2).f0.f0), .int .i64 ((rd_T75 t104 x29_2).f0.f1), .int .i64 0, .int .i64 0, .int .i64 0, .int .i64 0, .int .i64 0]) ?_ 2 _ rfl; (with_reducible repeat (first | refine blk_drewN ?_ _ | refine blk_drew ?_ | refine blk_alloc ?_ _)); refine blk_put (cs := #[.int .i64 ((rd_T75 t104 x29_2).f0.f0), .int .i64 0, .int .i64 0, .int .i64 0, .int .i64 0, .int .i64 0, .int .i64 0]) ?_ 1 _ rfl; (with_reducible repeat (first | refine blk_drewN ?_ _ | refine blk_drew ?_ | refine blk_alloc ?_ _)); refine blk_put (cs := #[.int .i64 0, .int .i64 0, .int .i64 0, .int .i64 0, .int .i64 0, .int .i64 0, .int .i64 0]) ?_ 0 _ rfl; (with_reducible repeat (first | refine blk_drewN ?_ _ | refine blk_drew ?_ | refine blk_alloc ?_ _)); exact BK108.out⟩, ⟨by repeat (first | (with_reducible first | exact HB.out | apply below_alloc | apply pw_below_drewN | apply below_drew1 | refine below_set ?_ GE108.out) | exact HB.out)⟩⟩
                                  · rw [if_neg c33] at H
                                    have c33b0 : decide (((rd_T75 t104 x29_2).f3) < 1) = false := decide_eq_false c33
                                    clear c33
                                    have H' := Aside0.mk H
                                    clear H
                                    have hcz35_0 : w20.cell? ⟨gb108, 0, none⟩ = some (.int .i64 0) := (blk_cell BK108.out 0).trans rfl
                                    have hcz35_1 : w20.cell? ⟨gb108, 1, none⟩ = some (.int .i64 0) := (blk_cell BK108.out 1).trans rfl
                                    have hcz35_2 : w20.cell? ⟨gb108, 2, none⟩ = some (.int .i64 0) := (blk_cell BK108.out 2).trans rfl
                                    have hcz35_3 : w20.cell? ⟨gb108, 3, none⟩ = some (.int .i64 0) := (blk_cell BK108.out 3).trans rfl
                                    have hcz35_4 : w20.cell? ⟨gb108, 4, none⟩ = some (.int .i64 0) := (blk_cell BK108.out 4).trans rfl
                                    have hcz35_5 : w20.cell? ⟨gb108, 5, none⟩ = some (.int .i64 0) := (blk_cell BK108.out 5).trans rfl
                                    have hcz35_6 : w20.cell? ⟨gb108, 6, none⟩ = some (.int .i64 0) := (blk_cell BK108.out 6).trans rfl
                                    have hfz35_0 := blk_frozen BK108.out 0
                                    have hfz35_1 := blk_frozen BK108.out 1
                                    have hfz35_2 := blk_frozen BK108.out 2
                                    have hfz35_3 := blk_frozen BK108.out 3
                                    have hfz35_4 := blk_frozen BK108.out 4
                                    have hfz35_5 := blk_frozen BK108.out 5
                                    have hfz35_6 := blk_frozen BK108.out 6
                                    go_wp2
                                    repeat (go_quiet (fail); try go_wp2)
                                    go_meet
                                    case rel => exact ⟨_, (decide (((rd_T75 t104 x29_2).f3) > 5)), (by first | rfl | (simp; done) | (simp [*]; done)), H', ⟨by have := HJ3.out; have := HK2.out; first | omega | exact Nat.le_refl _⟩, ⟨by (with_reducible repeat (first | apply Kd.R_alloc | apply Kd.R_drewN | apply Kd.R_drew)); exact Kd.R_mono (Kd.R_far (p := ⟨gb108, 6, none⟩) (Kd.R_far (p := ⟨gb108, 5, none⟩) (Kd.R_far (p := ⟨gb108, 4, none⟩) (Kd.R_far (p := ⟨gb108, 3, none⟩) (Kd.R_far (p := ⟨gb108, 2, none⟩) (Kd.R_far (p := ⟨gb108, 1, none⟩) (Kd.R_far (p := ⟨gb108, 0, none⟩) (Kd.R_mono HO_7.out (fun k_ hk => (⟨hk, hk.2⟩ : _ ∧ k_ ≠ gb108))) (fun _ hk => hk.2) (.int .i64 ((rd_T75 t104 x29_2).f0.f0))) (fun _ hk => hk.2) (.int .i64 ((rd_T75 t104 x29_2).f0.f1))) (fun _ hk => hk.2) (.int .i64 ((rd_T75 t104 x29_2).f1.f0))) (fun _ hk => hk.2) (.int .i64 ((rd_T75 t104 x29_2).f1.f1))) (fun _ hk => hk.2) (.int .i64 ((rd_T75 t104 x29_2).f2.f0))) (fun _ hk => hk.2) (.int .i64 ((rd_T75 t104 x29_2).f2.f1))) (fun _ hk => hk.2) (.int .i64 ((rd_T75 t104 x29_2).f3))) (fun _ hk => hk.1.2)⟩, ⟨by (with_reducible repeat (first | refine blk_drewN ?_ _ | refine blk_drew ?_ | refine blk_alloc ?_ _)); refine blk_put (cs := #[.int .i64 ((rd_T75 t104 x29_2).f0.f0), .int .i64 ((rd_T75 t104 x29_2).f0.f1), .int .i64 ((rd_T75 t104 x29_2).f1.f0), .int .i64 ((rd_T75 t104 x29_2).f1.f1), .int .i64 ((rd_T75 t104 x29_2).f2.f0), .int .i64 ((rd_T75 t104 x29_2).f2.f1), .int .i64 0]) ?_ 6 _ rfl; (with_reducible repeat (first | refine blk_drewN ?_ _ | refine blk_drew ?_ | refine blk_alloc ?_ _)); refine blk_put (cs := #[.int .i64 ((rd_T75 t104 x29_2).f0.f0), .int .i64 ((rd_T75 t104 x29_2).f0.f1), .int .i64 ((rd_T75 t104 x29_2).f1.f0), .int .i64 ((rd_T75 t104 x29_2).f1.f1), .int .i64 ((rd_T75 t104 x29_2).f2.f0), .int .i64 0, .int .i64 0]) ?_ 5 _ rfl; (with_reducible repeat (first | refine blk_drewN ?_ _ | refine blk_drew ?_ | refine blk_alloc ?_ _)); refine blk_put (cs := #[.int .i64 ((rd_T75 t104 x29_2).f0.f0), .int .i64 ((rd_T75 t104 x29_2).f0.f1), .int .i64 ((rd_T75 t104 x29_2).f1.f0), .int .i64 ((rd_T75 t104 x29_2).f1.f1), .int .i64 0, .int .i64 0, .int .i64 0]) ?_ 4 _ rfl; (with_reducible repeat (first | refine blk_drewN ?_ _ | refine blk_drew ?_ | refine blk_alloc ?_ _)); refine blk_put (cs := #[.int .i64 ((rd_T75 t104 x29_2).f0.f0), .int .i64 ((rd_T75 t104 x29_2).f0.f1), .int .i64 ((rd_T75 t104 x29_2).f1.f0), .int .i64 0, .int .i64 0, .int .i64 0, .int .i64 0]) ?_ 3 _ rfl; (with_reducible repeat (first | refine blk_drewN ?_ _ | refine blk_drew ?_ | refine blk_alloc ?_ _)); refine blk_put (cs := #[.int .i64 ((rd_T75 t104 x29_2).f0.f0), .int .i64 ((rd_T75 t104 x29_2).f0.f1), .int .i64 0, .int .i64 0, .int .i64 0, .int .i64 0, .int .i64 0]) ?_ 2 _ rfl; (with_reducible repeat (first | refine blk_drewN ?_ _ | refine blk_drew ?_ | refine blk_alloc ?_ _)); refine blk_put (cs := #[.int .i64 ((rd_T75 t104 x29_2).f0.f0), .int .i64 0, .int .i64 0, .int .i64 0, .int .i64 0, .int .i64 0, .int .i64 0]) ?_ 1 _ rfl; (with_reducible repeat (first | refine blk_drewN ?_ _ | refine blk_drew ?_ | refine blk_alloc ?_ _)); refine blk_put (cs := #[.int .i64 0, .int .i64 0, .int .i64 0, .int .i64 0, .int .i64 0, .int .i64 0, .int .i64 0]) ?_ 0 _ rfl; (with_reducible repeat (first | refine blk_drewN ?_ _ | refine blk_drew ?_ | refine blk_alloc ?_ _)); exact BK108.out⟩, ⟨by repeat (first | (with_reducible first | exact HB.out | apply below_alloc | apply pw_below_drewN | apply below_drew1 | refine below_set ?_ GE108.out) | exact HB.out)⟩⟩
                        · rw [if_neg c24] at H
                          have c24b0 : (((rd_T75 t104 x29_2).f2.f0) == x10_2) = false := beq_eq_false_iff_ne.mpr c24
                          have c24b1 : (((rd_T75 t104 x29_2).f2.f0) != x10_2) = true := bne_iff_ne.mpr c24
                          have H' := Aside0.mk H
                          clear H
                          have hcz36_0 : w20.cell? ⟨gb108, 0, none⟩ = some (.int .i64 0) := (blk_cell BK108.out 0).trans rfl
                          have hcz36_1 : w20.cell? ⟨gb108, 1, none⟩ = some (.int .i64 0) := (blk_cell BK108.out 1).trans rfl
                          have hcz36_2 : w20.cell? ⟨gb108, 2, none⟩ = some (.int .i64 0) := (blk_cell BK108.out 2).trans rfl
                          have hcz36_3 : w20.cell? ⟨gb108, 3, none⟩ = some (.int .i64 0) := (blk_cell BK108.out 3).trans rfl
                          have hcz36_4 : w20.cell? ⟨gb108, 4, none⟩ = some (.int .i64 0) := (blk_cell BK108.out 4).trans rfl
                          have hcz36_5 : w20.cell? ⟨gb108, 5, none⟩ = some (.int .i64 0) := (blk_cell BK108.out 5).trans rfl
                          have hcz36_6 : w20.cell? ⟨gb108, 6, none⟩ = some (.int .i64 0) := (blk_cell BK108.out 6).trans rfl
                          have hfz36_0 := blk_frozen BK108.out 0
                          have hfz36_1 := blk_frozen BK108.out 1
                          have hfz36_2 := blk_frozen BK108.out 2
                          have hfz36_3 := blk_frozen BK108.out 3
                          have hfz36_4 := blk_frozen BK108.out 4
                          have hfz36_5 := blk_frozen BK108.out 5
                          have hfz36_6 := blk_frozen BK108.out 6
                          go_wp2
                          repeat (go_quiet (fail); try go_wp2)
                          go_meet
                          case rel => exact ⟨_, (true), (by first | rfl | (simp; done) | (simp [*]; done)), H', ⟨by have := HJ3.out; have := HK2.out; first | omega | exact Nat.le_refl _⟩, ⟨by (with_reducible repeat (first | apply Kd.R_alloc | apply Kd.R_drewN | apply Kd.R_drew)); exact Kd.R_mono (Kd.R_far (p := ⟨gb108, 6, none⟩) (Kd.R_far (p := ⟨gb108, 5, none⟩) (Kd.R_far (p := ⟨gb108, 4, none⟩) (Kd.R_far (p := ⟨gb108, 3, none⟩) (Kd.R_far (p := ⟨gb108, 2, none⟩) (Kd.R_far (p := ⟨gb108, 1, none⟩) (Kd.R_far (p := ⟨gb108, 0, none⟩) (Kd.R_mono HO_7.out (fun k_ hk => (⟨hk, hk.2⟩ : _ ∧ k_ ≠ gb108))) (fun _ hk => hk.2) (.int .i64 ((rd_T75 t104 x29_2).f0.f0))) (fun _ hk => hk.2) (.int .i64 ((rd_T75 t104 x29_2).f0.f1))) (fun _ hk => hk.2) (.int .i64 ((rd_T75 t104 x29_2).f1.f0))) (fun _ hk => hk.2) (.int .i64 ((rd_T75 t104 x29_2).f1.f1))) (fun _ hk => hk.2) (.int .i64 ((rd_T75 t104 x29_2).f2.f0))) (fun _ hk => hk.2) (.int .i64 ((rd_T75 t104 x29_2).f2.f1))) (fun _ hk => hk.2) (.int .i64 ((rd_T75 t104 x29_2).f3))) (fun _ hk => hk.1.2)⟩, ⟨by (with_reducible repeat (first | refine blk_drewN ?_ _ | refine blk_drew ?_ | refine blk_alloc ?_ _)); refine blk_put (cs := #[.int .i64 ((rd_T75 t104 x29_2).f0.f0), .int .i64 ((rd_T75 t104 x29_2).f0.f1), .int .i64 ((rd_T75 t104 x29_2).f1.f0), .int .i64 ((rd_T75 t104 x29_2).f1.f1), .int .i64 ((rd_T75 t104 x29_2).f2.f0), .int .i64 ((rd_T75 t104 x29_2).f2.f1), .int .i64 0]) ?_ 6 _ rfl; (with_reducible repeat (first | refine blk_drewN ?_ _ | refine blk_drew ?_ | refine blk_alloc ?_ _)); refine blk_put (cs := #[.int .i64 ((rd_T75 t104 x29_2).f0.f0), .int .i64 ((rd_T75 t104 x29_2).f0.f1), .int .i64 ((rd_T75 t104 x29_2).f1.f0), .int .i64 ((rd_T75 t104 x29_2).f1.f1), .int .i64 ((rd_T75 t104 x29_2).f2.f0), .int .i64 0, .int .i64 0]) ?_ 5 _ rfl; (with_reducible repeat (first | refine blk_drewN ?_ _ | refine blk_drew ?_ | refine blk_alloc ?_ _)); refine blk_put (cs := #[.int .i64 ((rd_T75 t104 x29_2).f0.f0), .int .i64 ((rd_T75 t104 x29_2).f0.f1), .int .i64 ((rd_T75 t104 x29_2).f1.f0), .int .i64 ((rd_T75 t104 x29_2).f1.f1), .int .i64 0, .int .i64 0, .int .i64 0]) ?_ 4 _ rfl; (with_reducible repeat (first | refine blk_drewN ?_ _ | refine blk_drew ?_ | refine blk_alloc ?_ _)); refine blk_put (cs := #[.int .i64 ((rd_T75 t104 x29_2).f0.f0), .int .i64 ((rd_T75 t104 x29_2).f0.f1), .int .i64 ((rd_T75 t104 x29_2).f1.f0), .int .i64 0, .int .i64 0, .int .i64 0, .int .i64 0]) ?_ 3 _ rfl; (with_reducible repeat (first | refine blk_drewN ?_ _ | refine blk_drew ?_ | refine blk_alloc ?_ _)); refine blk_put (cs := #[.int .i64 ((rd_T75 t104 x29_2).f0.f0), .int .i64 ((rd_T75 t104 x29_2).f0.f1), .int .i64 0, .int .i64 0, .int .i64 0, .int .i64 0, .int .i64 0]) ?_ 2 _ rfl; (with_reducible repeat (first | refine blk_drewN ?_ _ | refine blk_drew ?_ | refine blk_alloc ?_ _)); refine blk_put (cs := #[.int .i64 ((rd_T75 t104 x29_2).f0.f0), .int .i64 0, .int .i64 0, .int .i64 0, .int .i64 0, .int .i64 0, .int .i64 0]) ?_ 1 _ rfl; (with_reducible repeat (first | refine blk_drewN ?_ _ | refine blk_drew ?_ | refine blk_alloc ?_ _)); refine blk_put (cs := #[.int .i64 0, .int .i64 0, .int .i64 0, .int .i64 0, .int .i64 0, .int .i64 0, .int .i64 0]) ?_ 0 _ rfl; (with_reducible repeat (first | refine blk_drewN ?_ _ | refine blk_drew ?_ | refine blk_alloc ?_ _)); exact BK108.out⟩, ⟨by repeat (first | (with_reducible first | exact HB.out | apply below_alloc | apply pw_below_drewN | apply below_drew1 | refine below_set ?_ GE108.out) | exact HB.out)⟩⟩
                      · rw [if_neg c23] at H
                        have c23b0 : (((rd_T75 t104 x29_2).f1.f0) == x9_2) = false := beq_eq_false_iff_ne.mpr c23
                        have c23b1 : (((rd_T75 t104 x29_2).f1.f0) != x9_2) = true := bne_iff_ne.mpr c23
                        have H' := Aside0.mk H
                        clear H
                        have hcz37_0 : w20.cell? ⟨gb108, 0, none⟩ = some (.int .i64 0) := (blk_cell BK108.out 0).trans rfl
                        have hcz37_1 : w20.cell? ⟨gb108, 1, none⟩ = some (.int .i64 0) := (blk_cell BK108.out 1).trans rfl
                        have hcz37_2 : w20.cell? ⟨gb108, 2, none⟩ = some (.int .i64 0) := (blk_cell BK108.out 2).trans rfl
                        have hcz37_3 : w20.cell? ⟨gb108, 3, none⟩ = some (.int .i64 0) := (blk_cell BK108.out 3).trans rfl
                        have hcz37_4 : w20.cell? ⟨gb108, 4, none⟩ = some (.int .i64 0) := (blk_cell BK108.out 4).trans rfl
                        have hcz37_5 : w20.cell? ⟨gb108, 5, none⟩ = some (.int .i64 0) := (blk_cell BK108.out 5).trans rfl
                        have hcz37_6 : w20.cell? ⟨gb108, 6, none⟩ = some (.int .i64 0) := (blk_cell BK108.out 6).trans rfl
                        have hfz37_0 := blk_frozen BK108.out 0
                        have hfz37_1 := blk_frozen BK108.out 1
                        have hfz37_2 := blk_frozen BK108.out 2
                        have hfz37_3 := blk_frozen BK108.out 3
                        have hfz37_4 := blk_frozen BK108.out 4
                        have hfz37_5 := blk_frozen BK108.out 5
                        have hfz37_6 := blk_frozen BK108.out 6
                        go_wp2
                        repeat (go_quiet (fail); try go_wp2)
                        go_meet
                        case rel => exact ⟨_, (true), (by first | rfl | (simp; done) | (simp [*]; done)), H', ⟨by have := HJ3.out; have := HK2.out; first | omega | exact Nat.le_refl _⟩, ⟨by (with_reducible repeat (first | apply Kd.R_alloc | apply Kd.R_drewN | apply Kd.R_drew)); exact Kd.R_mono (Kd.R_far (p := ⟨gb108, 6, none⟩) (Kd.R_far (p := ⟨gb108, 5, none⟩) (Kd.R_far (p := ⟨gb108, 4, none⟩) (Kd.R_far (p := ⟨gb108, 3, none⟩) (Kd.R_far (p := ⟨gb108, 2, none⟩) (Kd.R_far (p := ⟨gb108, 1, none⟩) (Kd.R_far (p := ⟨gb108, 0, none⟩) (Kd.R_mono HO_7.out (fun k_ hk => (⟨hk, hk.2⟩ : _ ∧ k_ ≠ gb108))) (fun _ hk => hk.2) (.int .i64 ((rd_T75 t104 x29_2).f0.f0))) (fun _ hk => hk.2) (.int .i64 ((rd_T75 t104 x29_2).f0.f1))) (fun _ hk => hk.2) (.int .i64 ((rd_T75 t104 x29_2).f1.f0))) (fun _ hk => hk.2) (.int .i64 ((rd_T75 t104 x29_2).f1.f1))) (fun _ hk => hk.2) (.int .i64 ((rd_T75 t104 x29_2).f2.f0))) (fun _ hk => hk.2) (.int .i64 ((rd_T75 t104 x29_2).f2.f1))) (fun _ hk => hk.2) (.int .i64 ((rd_T75 t104 x29_2).f3))) (fun _ hk => hk.1.2)⟩, ⟨by (with_reducible repeat (first | refine blk_drewN ?_ _ | refine blk_drew ?_ | refine blk_alloc ?_ _)); refine blk_put (cs := #[.int .i64 ((rd_T75 t104 x29_2).f0.f0), .int .i64 ((rd_T75 t104 x29_2).f0.f1), .int .i64 ((rd_T75 t104 x29_2).f1.f0), .int .i64 ((rd_T75 t104 x29_2).f1.f1), .int .i64 ((rd_T75 t104 x29_2).f2.f0), .int .i64 ((rd_T75 t104 x29_2).f2.f1), .int .i64 0]) ?_ 6 _ rfl; (with_reducible repeat (first | refine blk_drewN ?_ _ | refine blk_drew ?_ | refine blk_alloc ?_ _)); refine blk_put (cs := #[.int .i64 ((rd_T75 t104 x29_2).f0.f0), .int .i64 ((rd_T75 t104 x29_2).f0.f1), .int .i64 ((rd_T75 t104 x29_2).f1.f0), .int .i64 ((rd_T75 t104 x29_2).f1.f1), .int .i64 ((rd_T75 t104 x29_2).f2.f0), .int .i64 0, .int .i64 0]) ?_ 5 _ rfl; (with_reducible repeat (first | refine blk_drewN ?_ _ | refine blk_drew ?_ | refine blk_alloc ?_ _)); refine blk_put (cs := #[.int .i64 ((rd_T75 t104 x29_2).f0.f0), .int .i64 ((rd_T75 t104 x29_2).f0.f1), .int .i64 ((rd_T75 t104 x29_2).f1.f0), .int .i64 ((rd_T75 t104 x29_2).f1.f1), .int .i64 0, .int .i64 0, .int .i64 0]) ?_ 4 _ rfl; (with_reducible repeat (first | refine blk_drewN ?_ _ | refine blk_drew ?_ | refine blk_alloc ?_ _)); refine blk_put (cs := #[.int .i64 ((rd_T75 t104 x29_2).f0.f0), .int .i64 ((rd_T75 t104 x29_2).f0.f1), .int .i64 ((rd_T75 t104 x29_2).f1.f0), .int .i64 0, .int .i64 0, .int .i64 0, .int .i64 0]) ?_ 3 _ rfl; (with_reducible repeat (first | refine blk_drewN ?_ _ | refine blk_drew ?_ | refine blk_alloc ?_ _)); refine blk_put (cs := #[.int .i64 ((rd_T75 t104 x29_2).f0.f0), .int .i64 ((rd_T75 t104 x29_2).f0.f1), .int .i64 0, .int .i64 0, .int .i64 0, .int .i64 0, .int .i64 0]) ?_ 2 _ rfl; (with_reducible repeat (first | refine blk_drewN ?_ _ | refine blk_drew ?_ | refine blk_alloc ?_ _)); refine blk_put (cs := #[.int .i64 ((rd_T75 t104 x29_2).f0.f0), .int .i64 0, .int .i64 0, .int .i64 0, .int .i64 0, .int .i64 0, .int .i64 0]) ?_ 1 _ rfl; (with_reducible repeat (first | refine blk_drewN ?_ _ | refine blk_drew ?_ | refine blk_alloc ?_ _)); refine blk_put (cs := #[.int .i64 0, .int .i64 0, .int .i64 0, .int .i64 0, .int .i64 0, .int .i64 0, .int .i64 0]) ?_ 0 _ rfl; (with_reducible repeat (first | refine blk_drewN ?_ _ | refine blk_drew ?_ | refine blk_alloc ?_ _)); exact BK108.out⟩, ⟨by repeat (first | (with_reducible first | exact HB.out | apply below_alloc | apply pw_below_drewN | apply below_drew1 | refine below_set ?_ GE108.out) | exact HB.out)⟩⟩
                    · rw [if_neg c22] at H
                      have c22b0 : (((rd_T75 t104 x29_2).f0.f0) == x8_2) = false := beq_eq_false_iff_ne.mpr c22
                      have c22b1 : (((rd_T75 t104 x29_2).f0.f0) != x8_2) = true := bne_iff_ne.mpr c22
                      (first | rw [c22b0] | (simp only [i64_w, i32_w]; rw [c22b0]) | skip)
                      have H' := Aside0.mk H
                      clear H
                      have hcz38_0 : w20.cell? ⟨gb108, 0, none⟩ = some (.int .i64 0) := (blk_cell BK108.out 0).trans rfl
                      have hcz38_1 : w20.cell? ⟨gb108, 1, none⟩ = some (.int .i64 0) := (blk_cell BK108.out 1).trans rfl
                      have hcz38_2 : w20.cell? ⟨gb108, 2, none⟩ = some (.int .i64 0) := (blk_cell BK108.out 2).trans rfl
                      have hcz38_3 : w20.cell? ⟨gb108, 3, none⟩ = some (.int .i64 0) := (blk_cell BK108.out 3).trans rfl
                      have hcz38_4 : w20.cell? ⟨gb108, 4, none⟩ = some (.int .i64 0) := (blk_cell BK108.out 4).trans rfl
                      have hcz38_5 : w20.cell? ⟨gb108, 5, none⟩ = some (.int .i64 0) := (blk_cell BK108.out 5).trans rfl
                      have hcz38_6 : w20.cell? ⟨gb108, 6, none⟩ = some (.int .i64 0) := (blk_cell BK108.out 6).trans rfl
                      have hfz38_0 := blk_frozen BK108.out 0
                      have hfz38_1 := blk_frozen BK108.out 1
                      have hfz38_2 := blk_frozen BK108.out 2
                      have hfz38_3 := blk_frozen BK108.out 3
                      have hfz38_4 := blk_frozen BK108.out 4
                      have hfz38_5 := blk_frozen BK108.out 5
                      have hfz38_6 := blk_frozen BK108.out 6
                      go_wp2
                      repeat (go_quiet (fail); try go_wp2)
                      go_meet
                      case rel => exact ⟨_, (true), (by first | rfl | (simp; done) | (simp [*]; done)), H', ⟨by have := HJ3.out; have := HK2.out; first | omega | exact Nat.le_refl _⟩, ⟨by (with_reducible repeat (first | apply Kd.R_alloc | apply Kd.R_drewN | apply Kd.R_drew)); exact Kd.R_mono (Kd.R_far (p := ⟨gb108, 6, none⟩) (Kd.R_far (p := ⟨gb108, 5, none⟩) (Kd.R_far (p := ⟨gb108, 4, none⟩) (Kd.R_far (p := ⟨gb108, 3, none⟩) (Kd.R_far (p := ⟨gb108, 2, none⟩) (Kd.R_far (p := ⟨gb108, 1, none⟩) (Kd.R_far (p := ⟨gb108, 0, none⟩) (Kd.R_mono HO_7.out (fun k_ hk => (⟨hk, hk.2⟩ : _ ∧ k_ ≠ gb108))) (fun _ hk => hk.2) (.int .i64 ((rd_T75 t104 x29_2).f0.f0))) (fun _ hk => hk.2) (.int .i64 ((rd_T75 t104 x29_2).f0.f1))) (fun _ hk => hk.2) (.int .i64 ((rd_T75 t104 x29_2).f1.f0))) (fun _ hk => hk.2) (.int .i64 ((rd_T75 t104 x29_2).f1.f1))) (fun _ hk => hk.2) (.int .i64 ((rd_T75 t104 x29_2).f2.f0))) (fun _ hk => hk.2) (.int .i64 ((rd_T75 t104 x29_2).f2.f1))) (fun _ hk => hk.2) (.int .i64 ((rd_T75 t104 x29_2).f3))) (fun _ hk => hk.1.2)⟩, ⟨by (with_reducible repeat (first | refine blk_drewN ?_ _ | refine blk_drew ?_ | refine blk_alloc ?_ _)); refine blk_put (cs := #[.int .i64 ((rd_T75 t104 x29_2).f0.f0), .int .i64 ((rd_T75 t104 x29_2).f0.f1), .int .i64 ((rd_T75 t104 x29_2).f1.f0), .int .i64 ((rd_T75 t104 x29_2).f1.f1), .int .i64 ((rd_T75 t104 x29_2).f2.f0), .int .i64 ((rd_T75 t104 x29_2).f2.f1), .int .i64 0]) ?_ 6 _ rfl; (with_reducible repeat (first | refine blk_drewN ?_ _ | refine blk_drew ?_ | refine blk_alloc ?_ _)); refine blk_put (cs := #[.int .i64 ((rd_T75 t104 x29_2).f0.f0), .int .i64 ((rd_T75 t104 x29_2).f0.f1), .int .i64 ((rd_T75 t104 x29_2).f1.f0), .int .i64 ((rd_T75 t104 x29_2).f1.f1), .int .i64 ((rd_T75 t104 x29_2).f2.f0), .int .i64 0, .int .i64 0]) ?_ 5 _ rfl; (with_reducible repeat (first | refine blk_drewN ?_ _ | refine blk_drew ?_ | refine blk_alloc ?_ _)); refine blk_put (cs := #[.int .i64 ((rd_T75 t104 x29_2).f0.f0), .int .i64 ((rd_T75 t104 x29_2).f0.f1), .int .i64 ((rd_T75 t104 x29_2).f1.f0), .int .i64 ((rd_T75 t104 x29_2).f1.f1), .int .i64 0, .int .i64 0, .int .i64 0]) ?_ 4 _ rfl; (with_reducible repeat (first | refine blk_drewN ?_ _ | refine blk_drew ?_ | refine blk_alloc ?_ _)); refine blk_put (cs := #[.int .i64 ((rd_T75 t104 x29_2).f0.f0), .int .i64 ((rd_T75 t104 x29_2).f0.f1), .int .i64 ((rd_T75 t104 x29_2).f1.f0), .int .i64 0, .int .i64 0, .int .i64 0, .int .i64 0]) ?_ 3 _ rfl; (with_reducible repeat (first | refine blk_drewN ?_ _ | refine blk_drew ?_ | refine blk_alloc ?_ _)); refine blk_put (cs := #[.int .i64 ((rd_T75 t104 x29_2).f0.f0), .int .i64 ((rd_T75 t104 x29_2).f0.f1), .int .i64 0, .int .i64 0, .int .i64 0, .int .i64 0, .int .i64 0]) ?_ 2 _ rfl; (with_reducible repeat (first | refine blk_drewN ?_ _ | refine blk_drew ?_ | refine blk_alloc ?_ _)); refine blk_put (cs := #[.int .i64 ((rd_T75 t104 x29_2).f0.f0), .int .i64 0, .int .i64 0, .int .i64 0, .int .i64 0, .int .i64 0, .int .i64 0]) ?_ 1 _ rfl; (with_reducible repeat (first | refine blk_drewN ?_ _ | refine blk_drew ?_ | refine blk_alloc ?_ _)); refine blk_put (cs := #[.int .i64 0, .int .i64 0, .int .i64 0, .int .i64 0, .int .i64 0, .int .i64 0, .int .i64 0]) ?_ 0 _ rfl; (with_reducible repeat (first | refine blk_drewN ?_ _ | refine blk_drew ?_ | refine blk_alloc ?_ _)); exact BK108.out⟩, ⟨by repeat (first | (with_reducible first | exact HB.out | apply below_alloc | apply pw_below_drewN | apply below_drew1 | refine below_set ?_ GE108.out) | exact HB.out)⟩⟩
                  case rest =>
                    clear HC19
                    try clear c1
                    try clear p1
                    try clear q1
                    try clear hx1
                    try clear c2
                    try clear p2
                    try clear c3
                    try clear c6
                    try clear p6
                    try clear c10
                    try clear p10
                    try clear q10
                    try clear hx10
                    try clear c16
                    try clear c16b0
                    try clear c17
                    try clear c17b0
                    try clear c18
                    try clear c18b0
                    try clear c22
                    try clear c22b0
                    try clear c22b1
                    try clear c23
                    try clear c23b0
                    try clear c23b1
                    try clear c24
                    try clear c24b0
                    try clear c24b1
                    try clear c25
                    try clear c25b0
                    try clear c27
                    try clear c27b0
                    try clear c29
                    try clear c29b0
                    try clear c31
                    try clear c31b0
                    try clear c31b1
                    try clear c33
                    try clear c33b0
                    try clear hcz21_0
                    try clear hcz21_1
                    try clear hcz21_2
                    try clear hcz21_3
                    try clear hcz21_4
                    try clear hcz21_5
                    try clear hcz21_6
                    try clear hcz26_0
                    try clear hcz26_1
                    try clear hcz26_2
                    try clear hcz26_3
                    try clear hcz26_4
                    try clear hcz26_5
                    try clear hcz26_6
                    try clear hcz28_0
                    try clear hcz28_1
                    try clear hcz28_2
                    try clear hcz28_3
                    try clear hcz28_4
                    try clear hcz28_5
                    try clear hcz28_6
                    try clear hcz30_0
                    try clear hcz30_1
                    try clear hcz30_2
                    try clear hcz30_3
                    try clear hcz30_4
                    try clear hcz30_5
                    try clear hcz30_6
                    try clear hcz32_0
                    try clear hcz32_1
                    try clear hcz32_2
                    try clear hcz32_3
                    try clear hcz32_4
                    try clear hcz32_5
                    try clear hcz32_6
                    try clear hcz34_0
                    try clear hcz34_1
                    try clear hcz34_2
                    try clear hcz34_3
                    try clear hcz34_4
                    try clear hcz34_5
                    try clear hcz34_6
                    try clear hcz35_0
                    try clear hcz35_1
                    try clear hcz35_2
                    try clear hcz35_3
                    try clear hcz35_4
                    try clear hcz35_5
                    try clear hcz35_6
                    try clear hcz36_0
                    try clear hcz36_1
                    try clear hcz36_2
                    try clear hcz36_3
                    try clear hcz36_4
                    try clear hcz36_5
                    try clear hcz36_6
                    try clear hcz37_0
                    try clear hcz37_1
                    try clear hcz37_2
                    try clear hcz37_3
                    try clear hcz37_4
                    try clear hcz37_5
                    try clear hcz37_6
                    try clear hcz38_0
                    try clear hcz38_1
                    try clear hcz38_2
                    try clear hcz38_3
                    try clear hcz38_4
                    try clear hcz38_5
                    try clear hcz38_6
                    try clear hfz21_0
                    try clear hfz21_1
                    try clear hfz21_2
                    try clear hfz21_3
                    try clear hfz21_4
                    try clear hfz21_5
                    try clear hfz21_6
                    try clear hfz26_0
                    try clear hfz26_1
                    try clear hfz26_2
                    try clear hfz26_3
                    try clear hfz26_4
                    try clear hfz26_5
                    try clear hfz26_6
                    try clear hfz28_0
                    try clear hfz28_1
                    try clear hfz28_2
                    try clear hfz28_3
                    try clear hfz28_4
                    try clear hfz28_5
                    try clear hfz28_6
                    try clear hfz30_0
                    try clear hfz30_1
                    try clear hfz30_2
                    try clear hfz30_3
                    try clear hfz30_4
                    try clear hfz30_5
                    try clear hfz30_6
                    try clear hfz32_0
                    try clear hfz32_1
                    try clear hfz32_2
                    try clear hfz32_3
                    try clear hfz32_4
                    try clear hfz32_5
                    try clear hfz32_6
                    try clear hfz34_0
                    try clear hfz34_1
                    try clear hfz34_2
                    try clear hfz34_3
                    try clear hfz34_4
                    try clear hfz34_5
                    try clear hfz34_6
                    try clear hfz35_0
                    try clear hfz35_1
                    try clear hfz35_2
                    try clear hfz35_3
                    try clear hfz35_4
                    try clear hfz35_5
                    try clear hfz35_6
                    try clear hfz36_0
                    try clear hfz36_1
                    try clear hfz36_2
                    try clear hfz36_3
                    try clear hfz36_4
                    try clear hfz36_5
                    try clear hfz36_6
                    try clear hfz37_0
                    try clear hfz37_1
                    try clear hfz37_2
                    try clear hfz37_3
                    try clear hfz37_4
                    try clear hfz37_5
                    try clear hfz37_6
                    try clear hfz38_0
                    try clear hfz38_1
                    try clear hfz38_2
                    try clear hfz38_3
                    try clear hfz38_4
                    try clear hfz38_5
                    try clear hfz38_6
                    try clear hx107_0
                    try clear hx107_1
                    try clear hx107_2
                    try clear hx107_3
                    try clear hx107_4
                    try clear hx107_5
                    try clear hx107_6
                    try clear p107
                    try clear p2
                    try clear q107
                    obtain ⟨kq, x104_18, rfl, HA, HJ18, HO_7, BK108, HB⟩ := hcut
                    cases kq with
                    | zero => exact absurd HA.out (by simp [emendationlaw05_WeaveAll.j2])
                    | succ kj18 =>
                      have H := HA.out
                      clear HA
                      simp only [emendationlaw05_WeaveAll.j2] at H
                      by_cases c39 : x104_18 = true
                      · subst c39
                        have H1 : (some false) = some r := by rw [if_pos rfl] at H; exact H
                        clear H
                        have H := H1
                        clear H1
                        obtain rfl := Option.some.inj H
                        go_wp2
                        repeat (go_quiet (fail); try go_wp2)
                        go_ret
                        exact ⟨by first | rfl | (simp [errW_none, errW_some] <;> rfl) | (simp [*, errW_none, errW_some] <;> rfl), by repeat (first | (with_reducible first | exact HB.out | apply below_alloc | apply pw_below_drewN | apply below_drew1 | refine below_set ?_ GE108.out) | exact HB.out)⟩
                      · replace c39 := Bool.eq_false_iff.mpr c39
                        subst c39
                        have H1 : (if x29_2 > 0 then (if 0 ≤ (wrap64 (x29_2 - 1)) then (if (wrap64 (x29_2 - 1)) < (t104.length : Int) then (if ((((rd_T75 t104 (wrap64 (x29_2 - 1))).f3) == 1) == (((rd_T75 t104 x29_2).f3) == 1)) = true then (some false) else (emendationlaw05_WeaveAll.l0 kj18 l0 l1 l2 t104 ((rd_T75 t104 x29_2).f0.f1) ((rd_T75 t104 x29_2).f1.f1) ((rd_T75 t104 x29_2).f2.f1) (t104.length : Int) (wrap64 (x29_2 + 1)))) else (none)) else (none)) else (emendationlaw05_WeaveAll.l0 kj18 l0 l1 l2 t104 ((rd_T75 t104 x29_2).f0.f1) ((rd_T75 t104 x29_2).f1.f1) ((rd_T75 t104 x29_2).f2.f1) (t104.length : Int) (wrap64 (x29_2 + 1)))) = some r := by rw [if_neg (show ¬ (false = true) by decide)] at H; exact H
                        clear H
                        have H := H1
                        clear H1
                        by_cases c40 : x29_2 > 0
                        · rw [if_pos c40] at H
                          have c40b0 : decide (0 < x29_2) = true := decide_eq_true c40
                          clear c40
                          obtain ⟨ji41, hji41⟩ : ∃ j_ : Int, (wrap64 (x29_2 - 1)) = j_ := ⟨_, rfl⟩
                          replace H : (if 0 ≤ (ji41) then (if (ji41) < (t104.length : Int) then (if ((((rd_T75 t104 (ji41)).f3) == 1) == (((rd_T75 t104 x29_2).f3) == 1)) = true then (some false) else (emendationlaw05_WeaveAll.l0 kj18 l0 l1 l2 t104 ((rd_T75 t104 x29_2).f0.f1) ((rd_T75 t104 x29_2).f1.f1) ((rd_T75 t104 x29_2).f2.f1) (t104.length : Int) (wrap64 (x29_2 + 1)))) else (none)) else (none)) = some r := by first | (rw [hji41] at H; exact H) | (simp only [hji41] at H ⊢; exact H)
                          have hji41w : (IntKind.i64.wrap (x29_2 - 1)) = ji41 := (i64_w _).trans hji41
                          by_cases c42 : 0 ≤ (ji41)
                          · rw [if_pos c42] at H
                            have c42b0 : decide (0 ≤ (ji41)) = true := decide_eq_true c42
                            clear c42
                            by_cases c43 : (ji41) < (t104.length : Int)
                            · rw [if_pos c43] at H
                              have c43b0 : decide ((ji41) < (t104.length : Int)) = true := decide_eq_true c43
                              clear c43
                              by_cases c44 : ((((rd_T75 t104 (ji41)).f3) == 1) == (((rd_T75 t104 x29_2).f3) == 1)) = true
                              · rw [if_pos c44] at H
                                have c44b0 : ((((rd_T75 t104 (ji41)).f3) == 1) == (((rd_T75 t104 x29_2).f3) == 1)) = true := c44
                                (try (have c44b1 : decide ((((rd_T75 t104 (ji41)).f3) == 1) = (((rd_T75 t104 x29_2).f3) == 1)) = true := by simpa using c44))
                                (try (have c44b2 : ((((rd_T75 t104 (ji41)).f3) == 1) == (((rd_T75 t104 x29_2).f3) == 1)) = true := by simpa using c44))
                                clear c44
                                obtain rfl := Option.some.inj H
                                have p109 : 0 ≤ ((ji41) : Int) := of_decide_eq_true (by first | (with_reducible assumption) | assumption)
                                have q109 : (ji41) < (t104.length : Int) := of_decide_eq_true (by first | (with_reducible assumption) | assumption)
                                obtain ⟨ad109, e109, hx109_0, hx109_1, hx109_2, hx109_3, hx109_4, hx109_5, hx109_6⟩ := at_T75 (Kd.R_reads' HO_7.out).2.2 (ji41) p109 q109
                                obtain rfl : ad107 = ad109 := (by injection e109)
                                replace p109 := eq_true p109
                                replace q109 := eq_true q109
                                have hcz45_0 : wc.cell? ⟨gb108, 0, none⟩ = some (.int .i64 ((rd_T75 t104 x29_2).f0.f0)) := (blk_cell BK108.out 0).trans rfl
                                have hcz45_1 : wc.cell? ⟨gb108, 1, none⟩ = some (.int .i64 ((rd_T75 t104 x29_2).f0.f1)) := (blk_cell BK108.out 1).trans rfl
                                have hcz45_2 : wc.cell? ⟨gb108, 2, none⟩ = some (.int .i64 ((rd_T75 t104 x29_2).f1.f0)) := (blk_cell BK108.out 2).trans rfl
                                have hcz45_3 : wc.cell? ⟨gb108, 3, none⟩ = some (.int .i64 ((rd_T75 t104 x29_2).f1.f1)) := (blk_cell BK108.out 3).trans rfl
                                have hcz45_4 : wc.cell? ⟨gb108, 4, none⟩ = some (.int .i64 ((rd_T75 t104 x29_2).f2.f0)) := (blk_cell BK108.out 4).trans rfl
                                have hcz45_5 : wc.cell? ⟨gb108, 5, none⟩ = some (.int .i64 ((rd_T75 t104 x29_2).f2.f1)) := (blk_cell BK108.out 5).trans rfl
                                have hcz45_6 : wc.cell? ⟨gb108, 6, none⟩ = some (.int .i64 ((rd_T75 t104 x29_2).f3)) := (blk_cell BK108.out 6).trans rfl
                                have hfz45_0 := blk_frozen BK108.out 0
                                have hfz45_1 := blk_frozen BK108.out 1
                                have hfz45_2 := blk_frozen BK108.out 2
                                have hfz45_3 := blk_frozen BK108.out 3
                                have hfz45_4 := blk_frozen BK108.out 4
                                have hfz45_5 := blk_frozen BK108.out 5
                                have hfz45_6 := blk_frozen BK108.out 6
                                go_wp2
                                repeat (go_quiet (fail); try go_wp2)
                                go_ret
                                exact ⟨by first | rfl | (simp [errW_none, errW_some] <;> rfl) | (simp only [← hji41]; first | rfl | (simp [errW_none, errW_some] <;> rfl)) | (simp [*, errW_none, errW_some] <;> rfl), by repeat (first | (with_reducible first | exact HB.out | apply below_alloc | apply pw_below_drewN | apply below_drew1 | refine below_set ?_ GE108.out) | exact HB.out)⟩
                              · rw [if_neg c44] at H
                                have c44b0 : ((((rd_T75 t104 (ji41)).f3) == 1) == (((rd_T75 t104 x29_2).f3) == 1)) = false := by simpa using c44
                                (try (have c44b1 : decide ((((rd_T75 t104 (ji41)).f3) == 1) = (((rd_T75 t104 x29_2).f3) == 1)) = false := by simpa using c44))
                                (try (have c44b2 : ((((rd_T75 t104 (ji41)).f3) == 1) == (((rd_T75 t104 x29_2).f3) == 1)) = false := by simpa using c44))
                                (try (have c44b3 : ¬ ((((rd_T75 t104 (ji41)).f3) == 1) = (((rd_T75 t104 x29_2).f3) == 1)) := by simpa using c44))
                                clear c44
                                have H' := Aside0.mk H
                                clear H
                                have p109 : 0 ≤ ((ji41) : Int) := of_decide_eq_true (by first | (with_reducible assumption) | assumption)
                                have q109 : (ji41) < (t104.length : Int) := of_decide_eq_true (by first | (with_reducible assumption) | assumption)
                                obtain ⟨ad109, e109, hx109_0, hx109_1, hx109_2, hx109_3, hx109_4, hx109_5, hx109_6⟩ := at_T75 (Kd.R_reads' HO_7.out).2.2 (ji41) p109 q109
                                obtain rfl : ad107 = ad109 := (by injection e109)
                                replace p109 := eq_true p109
                                replace q109 := eq_true q109
                                have hcz46_0 : wc.cell? ⟨gb108, 0, none⟩ = some (.int .i64 ((rd_T75 t104 x29_2).f0.f0)) := (blk_cell BK108.out 0).trans rfl
                                have hcz46_1 : wc.cell? ⟨gb108, 1, none⟩ = some (.int .i64 ((rd_T75 t104 x29_2).f0.f1)) := (blk_cell BK108.out 1).trans rfl
                                have hcz46_2 : wc.cell? ⟨gb108, 2, none⟩ = some (.int .i64 ((rd_T75 t104 x29_2).f1.f0)) := (blk_cell BK108.out 2).trans rfl
                                have hcz46_3 : wc.cell? ⟨gb108, 3, none⟩ = some (.int .i64 ((rd_T75 t104 x29_2).f1.f1)) := (blk_cell BK108.out 3).trans rfl
                                have hcz46_4 : wc.cell? ⟨gb108, 4, none⟩ = some (.int .i64 ((rd_T75 t104 x29_2).f2.f0)) := (blk_cell BK108.out 4).trans rfl
                                have hcz46_5 : wc.cell? ⟨gb108, 5, none⟩ = some (.int .i64 ((rd_T75 t104 x29_2).f2.f1)) := (blk_cell BK108.out 5).trans rfl
                                have hcz46_6 : wc.cell? ⟨gb108, 6, none⟩ = some (.int .i64 ((rd_T75 t104 x29_2).f3)) := (blk_cell BK108.out 6).trans rfl
                                have hfz46_0 := blk_frozen BK108.out 0
                                have hfz46_1 := blk_frozen BK108.out 1
                                have hfz46_2 := blk_frozen BK108.out 2
                                have hfz46_3 := blk_frozen BK108.out 3
                                have hfz46_4 := blk_frozen BK108.out 4
                                have hfz46_5 := blk_frozen BK108.out 5
                                have hfz46_6 := blk_frozen BK108.out 6
                                go_wp2
                                repeat (go_quiet (fail); try go_wp2)
                                go_roundg kj18
                                case measure => have := HJ3.out; have := HK2.out; have := HJ18.out; omega
                                case rel => exact ⟨(((rd_T75 t104 x29_2).f0.f1)), (((rd_T75 t104 x29_2).f1.f1)), (((rd_T75 t104 x29_2).f2.f1)), (wrap64 (x29_2 + 1)), (by first | rfl | (simp; done) | (simp [*]; done)), (by first | rfl | (simp; done) | (simp [*]; done)), (by first | rfl | (simp; done) | (simp [*]; done)), (by first | rfl | (simp; done) | (simp [*]; done)), H', ⟨by have := HJ3.out; have := HK2.out; have := HJ18.out; omega⟩, ⟨by (with_reducible repeat (first | apply Kd.R_alloc | apply Kd.R_drewN | apply Kd.R_drew)); exact Kd.R_mono HO_7.out (fun _ hk => trivial)⟩, ⟨by repeat (first | (with_reducible first | exact HB.out | apply below_alloc | apply pw_below_drewN | apply below_drew1 | refine below_set ?_ GE108.out) | exact HB.out)⟩⟩
                            · rw [if_neg c43] at H
                              exact absurd H (by simp)
                          · rw [if_neg c42] at H
                            exact absurd H (by simp)
                        · rw [if_neg c40] at H
                          have c40b0 : decide (0 < x29_2) = false := decide_eq_false c40
                          clear c40
                          have H' := Aside0.mk H
                          clear H
                          have hcz47_0 : wc.cell? ⟨gb108, 0, none⟩ = some (.int .i64 ((rd_T75 t104 x29_2).f0.f0)) := (blk_cell BK108.out 0).trans rfl
                          have hcz47_1 : wc.cell? ⟨gb108, 1, none⟩ = some (.int .i64 ((rd_T75 t104 x29_2).f0.f1)) := (blk_cell BK108.out 1).trans rfl
                          have hcz47_2 : wc.cell? ⟨gb108, 2, none⟩ = some (.int .i64 ((rd_T75 t104 x29_2).f1.f0)) := (blk_cell BK108.out 2).trans rfl
                          have hcz47_3 : wc.cell? ⟨gb108, 3, none⟩ = some (.int .i64 ((rd_T75 t104 x29_2).f1.f1)) := (blk_cell BK108.out 3).trans rfl
                          have hcz47_4 : wc.cell? ⟨gb108, 4, none⟩ = some (.int .i64 ((rd_T75 t104 x29_2).f2.f0)) := (blk_cell BK108.out 4).trans rfl
                          have hcz47_5 : wc.cell? ⟨gb108, 5, none⟩ = some (.int .i64 ((rd_T75 t104 x29_2).f2.f1)) := (blk_cell BK108.out 5).trans rfl
                          have hcz47_6 : wc.cell? ⟨gb108, 6, none⟩ = some (.int .i64 ((rd_T75 t104 x29_2).f3)) := (blk_cell BK108.out 6).trans rfl
                          have hfz47_0 := blk_frozen BK108.out 0
                          have hfz47_1 := blk_frozen BK108.out 1
                          have hfz47_2 := blk_frozen BK108.out 2
                          have hfz47_3 := blk_frozen BK108.out 3
                          have hfz47_4 := blk_frozen BK108.out 4
                          have hfz47_5 := blk_frozen BK108.out 5
                          have hfz47_6 := blk_frozen BK108.out 6
                          go_wp2
                          repeat (go_quiet (fail); try go_wp2)
                          go_roundg kj18
                          case measure => have := HJ3.out; have := HK2.out; have := HJ18.out; omega
                          case rel => exact ⟨(((rd_T75 t104 x29_2).f0.f1)), (((rd_T75 t104 x29_2).f1.f1)), (((rd_T75 t104 x29_2).f2.f1)), (wrap64 (x29_2 + 1)), (by first | rfl | (simp; done) | (simp [*]; done)), (by first | rfl | (simp; done) | (simp [*]; done)), (by first | rfl | (simp; done) | (simp [*]; done)), (by first | rfl | (simp; done) | (simp [*]; done)), H', ⟨by have := HJ3.out; have := HK2.out; have := HJ18.out; omega⟩, ⟨by (with_reducible repeat (first | apply Kd.R_alloc | apply Kd.R_drewN | apply Kd.R_drew)); exact Kd.R_mono HO_7.out (fun _ hk => trivial)⟩, ⟨by repeat (first | (with_reducible first | exact HB.out | apply below_alloc | apply pw_below_drewN | apply below_drew1 | refine below_set ?_ GE108.out) | exact HB.out)⟩⟩
                · rw [if_neg c18] at H
                  exact absurd H (by simp)
              · rw [if_neg c17] at H
                exact absurd H (by simp)
            · rw [if_neg c16] at H
              have c16b0 : decide (x29_2 < (t104.length : Int)) = false := decide_eq_false c16
              clear c16
              by_cases c48 : x8_2 = (l0.length : Int)
              · rw [if_pos c48] at H
                have c48b0 : (x8_2 == (l0.length : Int)) = true := beq_iff_eq.mpr c48
                have c48b1 : (x8_2 != (l0.length : Int)) = false := bne_eq_false_iff_eq.mpr c48
                clear c48
                by_cases c49 : x9_2 = (l1.length : Int)
                · rw [if_pos c49] at H
                  have c49b0 : (x9_2 == (l1.length : Int)) = true := beq_iff_eq.mpr c49
                  have c49b1 : (x9_2 != (l1.length : Int)) = false := bne_eq_false_iff_eq.mpr c49
                  clear c49
                  obtain rfl := Option.some.inj H
                  go_wp2
                  repeat (go_quiet (fail); try go_wp2)
                  go_ret
                  exact ⟨by first | rfl | (simp [errW_none, errW_some] <;> rfl) | (simp [*, errW_none, errW_some] <;> rfl), by repeat (first | (with_reducible first | exact HB.out | apply below_alloc | apply pw_below_drewN | apply below_drew1) | exact HB.out)⟩
                · rw [if_neg c49] at H
                  have c49b0 : (x9_2 == (l1.length : Int)) = false := beq_eq_false_iff_ne.mpr c49
                  have c49b1 : (x9_2 != (l1.length : Int)) = true := bne_iff_ne.mpr c49
                  obtain rfl := Option.some.inj H
                  go_wp2
                  repeat (go_quiet (fail); try go_wp2)
                  go_ret
                  exact ⟨by first | rfl | (simp [errW_none, errW_some] <;> rfl) | (simp [*, errW_none, errW_some] <;> rfl), by repeat (first | (with_reducible first | exact HB.out | apply below_alloc | apply pw_below_drewN | apply below_drew1) | exact HB.out)⟩
              · rw [if_neg c48] at H
                have c48b0 : (x8_2 == (l0.length : Int)) = false := beq_eq_false_iff_ne.mpr c48
                have c48b1 : (x8_2 != (l0.length : Int)) = true := bne_iff_ne.mpr c48
                obtain rfl := Option.some.inj H
                go_wp2
                repeat (go_quiet (fail); try go_wp2)
                go_ret
                exact ⟨by first | rfl | (simp [errW_none, errW_some] <;> rfl) | (simp [*, errW_none, errW_some] <;> rfl), by repeat (first | (with_reducible first | exact HB.out | apply below_alloc | apply pw_below_drewN | apply below_drew1) | exact HB.out)⟩

/-- THE ONE PURE STATEMENT of emendationlaw05_WeaveAll: yours. -/
def emendationlaw05_WeaveAll.Pure : Prop := ∀ (l0 : List Int) (l1 : List Int) (l2 : List Int), l0.length ≤ maxLen → l0.length * 8 ≤ 140737488351232 → (∀ x ∈ l0, (Lit.int .i64 x).wf = true) → l1.length ≤ maxLen → l1.length * 8 ≤ 140737488351232 → (∀ x ∈ l1, (Lit.int .i64 x).wf = true) → l2.length ≤ maxLen → l2.length * 8 ≤ 140737488351232 → (∀ x ∈ l2, (Lit.int .i64 x).wf = true) → ∃ k, emendationlaw05_WeaveAll.f k l0 l1 l2 = some true
theorem emendationlaw05_WeaveAll.walk (P : emendationlaw05_WeaveAll.Pure) (a0 : Option Addr) (len0 cap0 : Nat) (z0 : List Int) (a1 : Option Addr) (len1 cap1 : Nat) (z1 : List Int) (a2 : Option Addr) (len2 cap2 : Nat) (z2 : List Int) (w : World) (w0 : (a0 = none ∧ len0 = 0 ∧ cap0 = 0 ∧ z0 = []) ∨ ∃ x, a0 = some x ∧ len0 ≤ cap0 ∧ cap0 ≤ maxLen ∧ z0.length = cap0 ∧ (∀ i, i < z0.length → w.cell? (x.add i) = some (.int .i64 (z0.getD i 0))) ∧ ∀ n ∈ z0, (Lit.int .i64 n).wf = true) (y0 : len0 * 8 ≤ 140737488351232) (w1 : (a1 = none ∧ len1 = 0 ∧ cap1 = 0 ∧ z1 = []) ∨ ∃ x, a1 = some x ∧ len1 ≤ cap1 ∧ cap1 ≤ maxLen ∧ z1.length = cap1 ∧ (∀ i, i < z1.length → w.cell? (x.add i) = some (.int .i64 (z1.getD i 0))) ∧ ∀ n ∈ z1, (Lit.int .i64 n).wf = true) (y1 : len1 * 8 ≤ 140737488351232) (w2 : (a2 = none ∧ len2 = 0 ∧ cap2 = 0 ∧ z2 = []) ∨ ∃ x, a2 = some x ∧ len2 ≤ cap2 ∧ cap2 ≤ maxLen ∧ z2.length = cap2 ∧ (∀ i, i < z2.length → w.cell? (x.add i) = some (.int .i64 (z2.getD i 0))) ∧ ∀ n ∈ z2, (Lit.int .i64 n).wf = true) (y2 : len2 * 8 ≤ 140737488351232) :
    Calls Try.prog 16 #[.slice a0 len0 cap0, .slice a1 len1 cap1, .slice a2 len2 cap2] w fun e w' => e = .returned (.bool true) ∧ Below w.heap.size w w' := by
  obtain ⟨l0, rfl, hr0, hm0, hw0, hc0⟩ := ReadsInt.ofRowC w0
  obtain ⟨l1, rfl, hr1, hm1, hw1, hc1⟩ := ReadsInt.ofRowC w1
  obtain ⟨l2, rfl, hr2, hm2, hw2, hc2⟩ := ReadsInt.ofRowC w2
  obtain ⟨k, h⟩ := P l0 l1 l2 hm0 y0 hw0 hm1 y1 hw1 hm2 y2 hw2
  refine (emendationlaw05_WeaveAll.calls k _ _ l0 _ _ l1 _ _ l2 true w (Kd.C_of_reads (d := (0 : Int)) (h1 := fun _ => rfl) hr0) hc0 (Kd.C_of_reads (d := (0 : Int)) (h1 := fun _ => rfl) hr1) hc1 (Kd.C_of_reads (d := (0 : Int)) (h1 := fun _ => rfl) hr2) hc2 h).mono ?_
  rintro e w' ⟨rfl, hd⟩
  exact ⟨rfl, hd⟩

end Go.Proofs.Ytlkgdfeeepiidaa.All
