-- Made by a program of this session (wip/mk.py) over the kit's printing program; Lean checks it.
import Derived.Test.YtlkgdfeeepiidaaF0
import Derived.Test.YtlkgdfeeepiidaaE73
import Derived.Test.YtlkgdfeeepiidaaF49
import Derived.Test.YtlkgdfeeepiidaaF50
import Derived.Test.YtlkgdfeeepiidaaF59
import Derived.Test.YtlkgdfeeepiidaaXWv
namespace Go.Proofs.Ytlkgdfeeepiidaa.All
open Go.RowKit Go.Proofs.YtlkgdfeeepiidaaW.PrintWords Go.Proofs.YtlkgdfeeepiidaaW.PrintLast Go.Proofs.YtlkgdfeeepiidaaW.PrintMore
attribute [local go_sem] max2_int min2_int max_two min_two max_three min_three max_four min_four   -- for this text's walks alone
set_option linter.unusedVariables false
set_option linter.unusedSimpArgs false
theorem cell_alloc {w : World} {a : Addr} {v : Value} (o : Obj) (h : w.cell? a = some v) : (w.alloc o).cell? a = some v := (World.cell?_alloc_lt _ _ _ (World.block_lt_of_cell? w a h)).trans h

attribute [local go_sem high] eqA75
/-! ### emendationlaw05_WeaveTurns: function 18 -/
mutual
def emendationlaw05_WeaveTurns.j0 : Nat → List Int → List Int → List Int → Bool → Option (Bool)
  | 0, _, _, _, _ => none
  | k + 1, x0, x1, x2, x23 => if x23 = true then ((emendationlaw05_awake.f k).bind fun t103 => (some t103)) else ((weave_Chunks.f k x0 x1 x2).bind fun t104 => ((weave_Chunks.f k x0 x2 x1).bind fun t107 => (if (t104.length : Int) = (t107.length : Int) then (emendationlaw05_WeaveTurns.l0 k x0 x1 x2 t104 t107 (t104.length : Int) 0) else (some false))))
def emendationlaw05_WeaveTurns.l0 : Nat → List Int → List Int → List Int → List (S75) → List (S75) → Int → Int → Option (Bool)
  | 0, _, _, _, _, _, _, _ => none
  | k + 1, x0, x1, x2, x7, x8, x39, x40 => if x40 < x39 then (if 0 ≤ x40 then (if x40 < (x8.length : Int) then (if ((rd_T75 x8 x40).f3) = 2 then (if x40 < (x7.length : Int) then (if ((!(((rd_T75 x7 x40).f0.f0) == ((rd_T75 x8 x40).f0.f0)) || (!(((rd_T75 x7 x40).f0.f1) == ((rd_T75 x8 x40).f0.f1)))) || ((!(((rd_T75 x7 x40).f1.f0) == ((rd_T75 x8 x40).f2.f0)) || (!(((rd_T75 x7 x40).f1.f1) == ((rd_T75 x8 x40).f2.f1)))) || ((!(((rd_T75 x7 x40).f2.f0) == ((rd_T75 x8 x40).f1.f0)) || (!(((rd_T75 x7 x40).f2.f1) == ((rd_T75 x8 x40).f1.f1)))) || (!(((rd_T75 x7 x40).f3) == 3))))) = true then (some false) else (emendationlaw05_WeaveTurns.l0 k x0 x1 x2 x7 x8 x39 (wrap64 (x40 + 1)))) else (none)) else (if ((rd_T75 x8 x40).f3) = 3 then (if x40 < (x7.length : Int) then (if ((!(((rd_T75 x7 x40).f0.f0) == ((rd_T75 x8 x40).f0.f0)) || (!(((rd_T75 x7 x40).f0.f1) == ((rd_T75 x8 x40).f0.f1)))) || ((!(((rd_T75 x7 x40).f1.f0) == ((rd_T75 x8 x40).f2.f0)) || (!(((rd_T75 x7 x40).f1.f1) == ((rd_T75 x8 x40).f2.f1)))) || ((!(((rd_T75 x7 x40).f2.f0) == ((rd_T75 x8 x40).f1.f0)) || (!(((rd_T75 x7 x40).f2.f1) == ((rd_T75 x8 x40).f1.f1)))) || (!(((rd_T75 x7 x40).f3) == 2))))) = true then (some false) else (emendationlaw05_WeaveTurns.l0 k x0 x1 x2 x7 x8 x39 (wrap64 (x40 + 1)))) else (none)) else (if x40 < (x7.length : Int) then (if ((!(((rd_T75 x7 x40).f0.f0) == ((rd_T75 x8 x40).f0.f0)) || (!(((rd_T75 x7 x40).f0.f1) == ((rd_T75 x8 x40).f0.f1)))) || ((!(((rd_T75 x7 x40).f1.f0) == ((rd_T75 x8 x40).f2.f0)) || (!(((rd_T75 x7 x40).f1.f1) == ((rd_T75 x8 x40).f2.f1)))) || ((!(((rd_T75 x7 x40).f2.f0) == ((rd_T75 x8 x40).f1.f0)) || (!(((rd_T75 x7 x40).f2.f1) == ((rd_T75 x8 x40).f1.f1)))) || (!(((rd_T75 x7 x40).f3) == ((rd_T75 x8 x40).f3)))))) = true then (some false) else (emendationlaw05_WeaveTurns.l0 k x0 x1 x2 x7 x8 x39 (wrap64 (x40 + 1)))) else (none)))) else (none)) else (none)) else ((weave_Merge.f k x0 x1 x2).bind fun bt110 => ((weave_Merge.f k x0 x2 x1).bind fun bt114 => (if (bt110.2 == bt114.2) = true then ((emendationref03_Same.f k bt110.1 bt114.1).bind fun t118 => (some t118)) else (some false))))
end
def emendationlaw05_WeaveTurns.f (k : Nat) (l0 : List Int) (l1 : List Int) (l2 : List Int) : Option (Bool) := (emendationlaw05_awake.f k).bind fun t101 => (if t101 = true then ((emendationlaw05_few.f l0 l1 l2).bind fun t102 => (emendationlaw05_WeaveTurns.j0 k l0 l1 l2 (!t102))) else (emendationlaw05_WeaveTurns.j0 k l0 l1 l2 true))
theorem emendationlaw05_WeaveTurns.mono_l : ∀ k, (∀ y0 y1 y2 y3, LeO (emendationlaw05_WeaveTurns.j0 k y0 y1 y2 y3) (emendationlaw05_WeaveTurns.j0 (k + 1) y0 y1 y2 y3)) ∧ (∀ y0 y1 y2 y3 y4 y5 y6, LeO (emendationlaw05_WeaveTurns.l0 k y0 y1 y2 y3 y4 y5 y6) (emendationlaw05_WeaveTurns.l0 (k + 1) y0 y1 y2 y3 y4 y5 y6))
  | 0 => ⟨fun _ _ _ _ r h => by simp [emendationlaw05_WeaveTurns.j0] at h, fun _ _ _ _ _ _ _ r h => by simp [emendationlaw05_WeaveTurns.l0] at h⟩
  | k + 1 => by
    obtain ⟨ih0, ih1⟩ := emendationlaw05_WeaveTurns.mono_l k
    refine ⟨?_, ?_⟩
    · intro y0 y1 y2 y3
      unfold emendationlaw05_WeaveTurns.j0
      repeat' first
      | (with_reducible exact ih0 _ _ _ _)
      | (with_reducible exact ih1 _ _ _ _ _ _ _)
      | (with_reducible exact emendationlaw05_awake.mono _)
      | (with_reducible exact emendationref03_Same.mono _ _ _)
      | (with_reducible exact weave_Chunks.mono _ _ _ _)
      | (with_reducible exact weave_Merge.mono _ _ _ _)
      | (with_reducible exact LeO.refl _)
      | (with_reducible exact LeO.none _)
      | (with_reducible refine LeO.ite ?_ ?_)
      | (with_reducible refine LeO.bind ?_ (fun _ => ?_))
      | exact ih0 _ _ _ _
      | exact ih1 _ _ _ _ _ _ _
      | exact emendationlaw05_awake.mono _
      | exact emendationref03_Same.mono _ _ _
      | exact weave_Chunks.mono _ _ _ _
      | exact weave_Merge.mono _ _ _ _
      | exact LeO.none _
      | refine LeO.ite ?_ ?_
      | refine LeO.bind ?_ (fun _ => ?_)
    · intro y0 y1 y2 y3 y4 y5 y6
      unfold emendationlaw05_WeaveTurns.l0
      repeat' first
      | (with_reducible exact ih0 _ _ _ _)
      | (with_reducible exact ih1 _ _ _ _ _ _ _)
      | (with_reducible exact emendationlaw05_awake.mono _)
      | (with_reducible exact emendationref03_Same.mono _ _ _)
      | (with_reducible exact weave_Chunks.mono _ _ _ _)
      | (with_reducible exact weave_Merge.mono _ _ _ _)
      | (with_reducible exact LeO.refl _)
      | (with_reducible exact LeO.none _)
      | (with_reducible refine LeO.ite ?_ ?_)
      | (with_reducible refine LeO.bind ?_ (fun _ => ?_))
      | exact ih0 _ _ _ _
      | exact ih1 _ _ _ _ _ _ _
      | exact emendationlaw05_awake.mono _
      | exact emendationref03_Same.mono _ _ _
      | exact weave_Chunks.mono _ _ _ _
      | exact weave_Merge.mono _ _ _ _
      | exact LeO.none _
      | refine LeO.ite ?_ ?_
      | refine LeO.bind ?_ (fun _ => ?_)
theorem emendationlaw05_WeaveTurns.mono : ∀ a0 a1 a2 k, LeO (emendationlaw05_WeaveTurns.f k a0 a1 a2) (emendationlaw05_WeaveTurns.f (k + 1) a0 a1 a2) := by
  intro a0 a1 a2 k
  obtain ⟨ih0, ih1⟩ := emendationlaw05_WeaveTurns.mono_l k
  unfold emendationlaw05_WeaveTurns.f
  repeat' first
      | (with_reducible exact ih0 _ _ _ _)
      | (with_reducible exact ih1 _ _ _ _ _ _ _)
      | (with_reducible exact emendationlaw05_awake.mono _)
      | (with_reducible exact emendationref03_Same.mono _ _ _)
      | (with_reducible exact weave_Chunks.mono _ _ _ _)
      | (with_reducible exact weave_Merge.mono _ _ _ _)
      | (with_reducible exact LeO.refl _)
      | (with_reducible exact LeO.none _)
      | (with_reducible refine LeO.ite ?_ ?_)
      | (with_reducible refine LeO.bind ?_ (fun _ => ?_))
      | exact ih0 _ _ _ _
      | exact ih1 _ _ _ _ _ _ _
      | exact emendationlaw05_awake.mono _
      | exact emendationref03_Same.mono _ _ _
      | exact weave_Chunks.mono _ _ _ _
      | exact weave_Merge.mono _ _ _ _
      | exact LeO.none _
      | refine LeO.ite ?_ ?_
      | refine LeO.bind ?_ (fun _ => ?_)
set_option maxHeartbeats 8000000 in
set_option maxRecDepth 100000 in
theorem emendationlaw05_WeaveTurns.calls (k : Nat) (A0 : Option Addr) (c0 : Nat) (l0 : List Int) (A1 : Option Addr) (c1 : Nat) (l1 : List Int) (A2 : Option Addr) (c2 : Nat) (l2 : List Int) (r : Bool) (w : World) (hr0 : Kd.C (Kd.int .i64) w A0 l0.length l0) (hc0 : l0.length ≤ c0) (hr1 : Kd.C (Kd.int .i64) w A1 l1.length l1) (hc1 : l1.length ≤ c1) (hr2 : Kd.C (Kd.int .i64) w A2 l2.length l2) (hc2 : l2.length ≤ c2) (h : emendationlaw05_WeaveTurns.f k l0 l1 l2 = some r) :
  Calls Try.prog 18 #[.slice A0 l0.length c0, .slice A1 l1.length c1, .slice A2 l2.length c2] w fun e w' => e = .returned (.bool r) ∧ Below w.heap.size w w' := by
 have hu75 := Try.underlying75
 have hu73 := Try.underlying73
 have HR0 := Aside0.mk hr0
 have HC0 := Aside0.mk hc0
 clear hr0 hc0
 have HR1 := Aside0.mk hr1
 have HC1 := Aside0.mk hc1
 clear hr1 hc1
 have HR2 := Aside0.mk hr2
 have HC2 := Aside0.mk hc2
 clear hr2 hc2
 have HB := Aside0.mk (Below.refl w.heap.size w)
 have H : ((emendationlaw05_awake.f k).bind fun t101 => (if t101 = true then ((emendationlaw05_few.f l0 l1 l2).bind fun t102 => (emendationlaw05_WeaveTurns.j0 k l0 l1 l2 (!t102))) else (emendationlaw05_WeaveTurns.j0 k l0 l1 l2 true))) = some r := h
 clear h
 have HC4 := Aside0.mk H
 clear H
 go_enter Try.func18, Try.ntmps18
 go_upto_region 1 with (fail)
 repeat (go_quiet (fail); go_upto_region 1 with (fail))
 go_cut [23] (fun v23 wc => ∃ (kq : Nat) (x23_3 : Bool), v23 = .bool x23_3 ∧ Aside0 (emendationlaw05_WeaveTurns.j0 kq l0 l1 l2 x23_3 = some r) ∧ Aside0 (kq ≤ k) ∧ Aside0 (Below w.heap.size w wc))
 case first =>
  have H := HC4.out
  clear HC4
  replace H := Option.bind_eq_some_iff.mp H
  obtain ⟨t101, A50, H⟩ := H
  replace H : (if t101 = true then ((emendationlaw05_few.f l0 l1 l2).bind fun t102 => (emendationlaw05_WeaveTurns.j0 k l0 l1 l2 (!t102))) else (emendationlaw05_WeaveTurns.j0 k l0 l1 l2 true)) = some r := H
  have A5 := Aside0.mk A50
  clear A50
  by_cases c6 : t101 = true
  ·
   subst c6
   have H1 : ((emendationlaw05_few.f l0 l1 l2).bind fun t102 => (emendationlaw05_WeaveTurns.j0 k l0 l1 l2 (!t102))) = some r := by rw [if_pos rfl] at H; exact H
   clear H
   have H := H1
   clear H1
   replace H := Option.bind_eq_some_iff.mp H
   obtain ⟨t102, A70, H⟩ := H
   replace H : (emendationlaw05_WeaveTurns.j0 k l0 l1 l2 (!t102)) = some r := H
   have A7 := Aside0.mk A70
   clear A70
   have H' := Aside0.mk H
   clear H
   go_wp2_with (first | (go_at_call 49; (with_reducible refine (emendationlaw05_awake.calls k  true _ A5.out).mono ?_); rintro e w8 ⟨rfl, hb⟩; have n0_ := Aside0.mk (below_step (by repeat (first | (with_reducible first | exact HB.out | apply below_alloc | apply pw_below_drewN | apply below_drew1) | exact HB.out)) hb); clear HB; have HB := n0_; clear n0_; (try clear hb); (try clear hb2); (try clear hk); (try clear hi)) | (go_at_call 50; (with_reducible refine (emendationlaw05_few.calls _ _ l0 _ _ l1 _ _ l2 t102 _ ?side1 ?side2 ?side3 ?side4 ?side5 ?side6 A7.out).mono ?_); (case side1 => repeat (first | exact (Kd.C_below HR0.out HB.out) | (with_reducible refine Kd.C_alloc ?_ _) | (with_reducible refine Kd.C_drewN ?_ _) | (with_reducible refine Kd.C_drew ?_))); (case side2 => exact HC0.out); (case side3 => repeat (first | exact (Kd.C_below HR1.out HB.out) | (with_reducible refine Kd.C_alloc ?_ _) | (with_reducible refine Kd.C_drewN ?_ _) | (with_reducible refine Kd.C_drew ?_))); (case side4 => exact HC1.out); (case side5 => repeat (first | exact (Kd.C_below HR2.out HB.out) | (with_reducible refine Kd.C_alloc ?_ _) | (with_reducible refine Kd.C_drewN ?_ _) | (with_reducible refine Kd.C_drew ?_))); (case side6 => exact HC2.out); rintro e w' ⟨rfl, ⟨nd, rfl⟩⟩; (try first | exact ⟨rfl, _, World.drewN_drewN _ _ _⟩ | exact ⟨rfl, _, Eq.trans (World.drewN_drewN _ _ _) (congrArg (World.drewN _) (Nat.add_assoc _ _ _))⟩)))
   repeat (go_quiet (first | (go_at_call 49; (with_reducible refine (emendationlaw05_awake.calls k  true _ A5.out).mono ?_); rintro e w8 ⟨rfl, hb⟩; have n0_ := Aside0.mk (below_step (by repeat (first | (with_reducible first | exact HB.out | apply below_alloc | apply pw_below_drewN | apply below_drew1) | exact HB.out)) hb); clear HB; have HB := n0_; clear n0_; (try clear hb); (try clear hb2); (try clear hk); (try clear hi)) | (go_at_call 50; (with_reducible refine (emendationlaw05_few.calls _ _ l0 _ _ l1 _ _ l2 t102 _ ?side1 ?side2 ?side3 ?side4 ?side5 ?side6 A7.out).mono ?_); (case side1 => repeat (first | exact (Kd.C_below HR0.out HB.out) | (with_reducible refine Kd.C_alloc ?_ _) | (with_reducible refine Kd.C_drewN ?_ _) | (with_reducible refine Kd.C_drew ?_))); (case side2 => exact HC0.out); (case side3 => repeat (first | exact (Kd.C_below HR1.out HB.out) | (with_reducible refine Kd.C_alloc ?_ _) | (with_reducible refine Kd.C_drewN ?_ _) | (with_reducible refine Kd.C_drew ?_))); (case side4 => exact HC1.out); (case side5 => repeat (first | exact (Kd.C_below HR2.out HB.out) | (with_reducible refine Kd.C_alloc ?_ _) | (with_reducible refine Kd.C_drewN ?_ _) | (with_reducible refine Kd.C_drew ?_))); (case side6 => exact HC2.out); rintro e w' ⟨rfl, ⟨nd, rfl⟩⟩; (try first | exact ⟨rfl, _, World.drewN_drewN _ _ _⟩ | exact ⟨rfl, _, Eq.trans (World.drewN_drewN _ _ _) (congrArg (World.drewN _) (Nat.add_assoc _ _ _))⟩))); try go_wp2_with (first | (go_at_call 49; (with_reducible refine (emendationlaw05_awake.calls k  true _ A5.out).mono ?_); rintro e w8 ⟨rfl, hb⟩; have n0_ := Aside0.mk (below_step (by repeat (first | (with_reducible first | exact HB.out | apply below_alloc | apply pw_below_drewN | apply below_drew1) | exact HB.out)) hb); clear HB; have HB := n0_; clear n0_; (try clear hb); (try clear hb2); (try clear hk); (try clear hi)) | (go_at_call 50; (with_reducible refine (emendationlaw05_few.calls _ _ l0 _ _ l1 _ _ l2 t102 _ ?side1 ?side2 ?side3 ?side4 ?side5 ?side6 A7.out).mono ?_); (case side1 => repeat (first | exact (Kd.C_below HR0.out HB.out) | (with_reducible refine Kd.C_alloc ?_ _) | (with_reducible refine Kd.C_drewN ?_ _) | (with_reducible refine Kd.C_drew ?_))); (case side2 => exact HC0.out); (case side3 => repeat (first | exact (Kd.C_below HR1.out HB.out) | (with_reducible refine Kd.C_alloc ?_ _) | (with_reducible refine Kd.C_drewN ?_ _) | (with_reducible refine Kd.C_drew ?_))); (case side4 => exact HC1.out); (case side5 => repeat (first | exact (Kd.C_below HR2.out HB.out) | (with_reducible refine Kd.C_alloc ?_ _) | (with_reducible refine Kd.C_drewN ?_ _) | (with_reducible refine Kd.C_drew ?_))); (case side6 => exact HC2.out); rintro e w' ⟨rfl, ⟨nd, rfl⟩⟩; (try first | exact ⟨rfl, _, World.drewN_drewN _ _ _⟩ | exact ⟨rfl, _, Eq.trans (World.drewN_drewN _ _ _) (congrArg (World.drewN _) (Nat.add_assoc _ _ _))⟩))))
   go_meet
   case rel => exact ⟨_, (!t102), (by first | rfl | (simp; done) | (simp [*]; done)), H', ⟨by first | omega | exact Nat.le_refl _⟩, ⟨by repeat (first | (with_reducible first | exact HB.out | apply below_alloc | apply pw_below_drewN | apply below_drew1) | exact HB.out)⟩⟩
  ·
   replace c6 := Bool.eq_false_iff.mpr c6
   subst c6
   have H1 : (emendationlaw05_WeaveTurns.j0 k l0 l1 l2 true) = some r := by rw [if_neg (show ¬ (false = true) by decide)] at H; exact H
   clear H
   have H := H1
   clear H1
   have H' := Aside0.mk H
   clear H
   go_wp2_with (first | (go_at_call 49; (with_reducible refine (emendationlaw05_awake.calls k  false _ A5.out).mono ?_); rintro e w9 ⟨rfl, hb⟩; have n0_ := Aside0.mk (below_step (by repeat (first | (with_reducible first | exact HB.out | apply below_alloc | apply pw_below_drewN | apply below_drew1) | exact HB.out)) hb); clear HB; have HB := n0_; clear n0_; (try clear hb); (try clear hb2); (try clear hk); (try clear hi)))
   repeat (go_quiet (first | (go_at_call 49; (with_reducible refine (emendationlaw05_awake.calls k  false _ A5.out).mono ?_); rintro e w9 ⟨rfl, hb⟩; have n0_ := Aside0.mk (below_step (by repeat (first | (with_reducible first | exact HB.out | apply below_alloc | apply pw_below_drewN | apply below_drew1) | exact HB.out)) hb); clear HB; have HB := n0_; clear n0_; (try clear hb); (try clear hb2); (try clear hk); (try clear hi))); try go_wp2_with (first | (go_at_call 49; (with_reducible refine (emendationlaw05_awake.calls k  false _ A5.out).mono ?_); rintro e w9 ⟨rfl, hb⟩; have n0_ := Aside0.mk (below_step (by repeat (first | (with_reducible first | exact HB.out | apply below_alloc | apply pw_below_drewN | apply below_drew1) | exact HB.out)) hb); clear HB; have HB := n0_; clear n0_; (try clear hb); (try clear hb2); (try clear hk); (try clear hi))))
   go_meet
   case rel => exact ⟨_, (true), (by first | rfl | (simp; done) | (simp [*]; done)), H', ⟨by first | omega | exact Nat.le_refl _⟩, ⟨by repeat (first | (with_reducible first | exact HB.out | apply below_alloc | apply pw_below_drewN | apply below_drew1) | exact HB.out)⟩⟩
 case rest =>
  clear HC4
  try clear c1
  try clear c2
  try clear p2
  try clear c6
  obtain ⟨kq, x23_3, rfl, HA, HJ3, HB⟩ := hcut
  cases kq with
  | zero => exact absurd HA.out (by simp [emendationlaw05_WeaveTurns.j0])
  | succ kj3 =>
   have H := HA.out
   clear HA
   simp only [emendationlaw05_WeaveTurns.j0] at H
   by_cases c10 : x23_3 = true
   ·
    subst c10
    have H1 : ((emendationlaw05_awake.f kj3).bind fun t103 => (some t103)) = some r := by rw [if_pos rfl] at H; exact H
    clear H
    have H := H1
    clear H1
    replace H := Option.bind_eq_some_iff.mp H
    obtain ⟨t103, A110, H⟩ := H
    replace H : (some t103) = some r := H
    have A11 := Aside0.mk A110
    clear A110
    obtain rfl := Option.some.inj H
    go_wp2_with (first | (go_at_call 49; (with_reducible refine (emendationlaw05_awake.calls kj3  t103 _ A11.out).mono ?_); rintro e w12 ⟨rfl, hb⟩; have n0_ := Aside0.mk (below_step (by repeat (first | (with_reducible first | exact HB.out | apply below_alloc | apply pw_below_drewN | apply below_drew1) | exact HB.out)) hb); clear HB; have HB := n0_; clear n0_; (try clear hb); (try clear hb2); (try clear hk); (try clear hi)))
    repeat (go_quiet (first | (go_at_call 49; (with_reducible refine (emendationlaw05_awake.calls kj3  t103 _ A11.out).mono ?_); rintro e w12 ⟨rfl, hb⟩; have n0_ := Aside0.mk (below_step (by repeat (first | (with_reducible first | exact HB.out | apply below_alloc | apply pw_below_drewN | apply below_drew1) | exact HB.out)) hb); clear HB; have HB := n0_; clear n0_; (try clear hb); (try clear hb2); (try clear hk); (try clear hi))); try go_wp2_with (first | (go_at_call 49; (with_reducible refine (emendationlaw05_awake.calls kj3  t103 _ A11.out).mono ?_); rintro e w12 ⟨rfl, hb⟩; have n0_ := Aside0.mk (below_step (by repeat (first | (with_reducible first | exact HB.out | apply below_alloc | apply pw_below_drewN | apply below_drew1) | exact HB.out)) hb); clear HB; have HB := n0_; clear n0_; (try clear hb); (try clear hb2); (try clear hk); (try clear hi))))
    go_ret
    exact ⟨by first | rfl | (simp [errW_none, errW_some] <;> rfl) | (simp [*, errW_none, errW_some] <;> rfl), by repeat (first | (with_reducible first | exact HB.out | apply below_alloc | apply pw_below_drewN | apply below_drew1) | exact HB.out)⟩
   ·
    replace c10 := Bool.eq_false_iff.mpr c10
    subst c10
    have H1 : ((weave_Chunks.f kj3 l0 l1 l2).bind fun t104 => ((weave_Chunks.f kj3 l0 l2 l1).bind fun t107 => (if (t104.length : Int) = (t107.length : Int) then (emendationlaw05_WeaveTurns.l0 kj3 l0 l1 l2 t104 t107 (t104.length : Int) 0) else (some false)))) = some r := by rw [if_neg (show ¬ (false = true) by decide)] at H; exact H
    clear H
    have H := H1
    clear H1
    replace H := Option.bind_eq_some_iff.mp H
    obtain ⟨t104, A130, H⟩ := H
    replace H : ((weave_Chunks.f kj3 l0 l2 l1).bind fun t107 => (if (t104.length : Int) = (t107.length : Int) then (emendationlaw05_WeaveTurns.l0 kj3 l0 l1 l2 t104 t107 (t104.length : Int) 0) else (some false))) = some r := H
    have A13 := Aside0.mk A130
    clear A130
    replace H := Option.bind_eq_some_iff.mp H
    obtain ⟨t107, A140, H⟩ := H
    replace H : (if (t104.length : Int) = (t107.length : Int) then (emendationlaw05_WeaveTurns.l0 kj3 l0 l1 l2 t104 t107 (t104.length : Int) 0) else (some false)) = some r := H
    have A14 := Aside0.mk A140
    clear A140
    by_cases c15 : (t104.length : Int) = (t107.length : Int)
    ·
     rw [if_pos c15] at H
     have c15b0 : ((t104.length : Int) == (t107.length : Int)) = true := beq_iff_eq.mpr c15
     have c15b1 : ((t104.length : Int) != (t107.length : Int)) = false := bne_eq_false_iff_eq.mpr c15
     have c15b2 : (t104.length == t107.length) = true := by first | simpa using c15 | (simp at c15 ⊢; omega)
     clear c15
     have H' := Aside0.mk H
     clear H
     go_wp2_with (first | (go_at_call 51; (with_reducible refine (weave_Chunks.calls kj3 _ _ l0 _ _ l1 _ _ l2 t104 _ ?side1 ?side2 ?side3 ?side4 ?side5 ?side6 A13.out).mono ?_); (case side1 => repeat (first | exact (Kd.C_below HR0.out HB.out) | (with_reducible refine Kd.C_alloc ?_ _) | (with_reducible refine Kd.C_drewN ?_ _) | (with_reducible refine Kd.C_drew ?_))); (case side2 => exact HC0.out); (case side3 => repeat (first | exact (Kd.C_below HR1.out HB.out) | (with_reducible refine Kd.C_alloc ?_ _) | (with_reducible refine Kd.C_drewN ?_ _) | (with_reducible refine Kd.C_drew ?_))); (case side4 => exact HC1.out); (case side5 => repeat (first | exact (Kd.C_below HR2.out HB.out) | (with_reducible refine Kd.C_alloc ?_ _) | (with_reducible refine Kd.C_drewN ?_ _) | (with_reducible refine Kd.C_drew ?_))); (case side6 => exact HC2.out); rintro e w16 ⟨v105, rfl, ho0, hb⟩; have n0_ := Aside0.mk (Kd.R_lower ho0 (below_size (by repeat (first | (with_reducible first | exact HB.out | apply below_alloc | apply pw_below_drewN | apply below_drew1) | exact HB.out)))); have n1_ := Aside0.mk (below_step (by repeat (first | (with_reducible first | exact HB.out | apply below_alloc | apply pw_below_drewN | apply below_drew1) | exact HB.out)) hb); clear HB; have HO106 := n0_; have HB := n1_; clear n0_ n1_; (try clear hb); (try clear hb2); (try clear hk); (try clear hi); (try clear ho0)) | (go_at_call 51; (with_reducible refine (weave_Chunks.calls kj3 _ _ l0 _ _ l2 _ _ l1 t107 _ ?side1 ?side2 ?side3 ?side4 ?side5 ?side6 A14.out).mono ?_); (case side1 => repeat (first | exact (Kd.C_below HR0.out HB.out) | (with_reducible refine Kd.C_alloc ?_ _) | (with_reducible refine Kd.C_drewN ?_ _) | (with_reducible refine Kd.C_drew ?_))); (case side2 => exact HC0.out); (case side3 => repeat (first | exact (Kd.C_below HR2.out HB.out) | (with_reducible refine Kd.C_alloc ?_ _) | (with_reducible refine Kd.C_drewN ?_ _) | (with_reducible refine Kd.C_drew ?_))); (case side4 => exact HC2.out); (case side5 => repeat (first | exact (Kd.C_below HR1.out HB.out) | (with_reducible refine Kd.C_alloc ?_ _) | (with_reducible refine Kd.C_drewN ?_ _) | (with_reducible refine Kd.C_drew ?_))); (case side6 => exact HC1.out); rintro e w17 ⟨v108, rfl, ho0, hb⟩; have n0_ := Aside0.mk (Kd.R_elder' (by (with_reducible repeat (first | apply Kd.R_alloc | apply Kd.R_drewN | apply Kd.R_drew)); exact HO106.out) (Kd.R_base ho0) hb); have n1_ := Aside0.mk (Kd.R_lower (Kd.R_new' ho0 (Kd.R_lt (by (with_reducible repeat (first | apply Kd.R_alloc | apply Kd.R_drewN | apply Kd.R_drew)); exact HO106.out))) (below_size (by repeat (first | (with_reducible first | exact HB.out | apply below_alloc | apply pw_below_drewN | apply below_drew1) | exact HB.out)))); have n2_ := Aside0.mk (below_step (by repeat (first | (with_reducible first | exact HB.out | apply below_alloc | apply pw_below_drewN | apply below_drew1) | exact HB.out)) hb); clear HO106; clear HB; have HO106 := n0_; have HO109 := n1_; have HB := n2_; clear n0_ n1_ n2_; (try clear hb); (try clear hb2); (try clear hk); (try clear hi); (try clear ho0); obtain ⟨Ao18, co18, eo18⟩ := Kd.R_slice HO106.out; subst eo18; obtain ⟨Ao19, co19, eo19⟩ := Kd.R_slice HO109.out; subst eo19))
     repeat (go_quiet (first | (go_at_call 51; (with_reducible refine (weave_Chunks.calls kj3 _ _ l0 _ _ l1 _ _ l2 t104 _ ?side1 ?side2 ?side3 ?side4 ?side5 ?side6 A13.out).mono ?_); (case side1 => repeat (first | exact (Kd.C_below HR0.out HB.out) | (with_reducible refine Kd.C_alloc ?_ _) | (with_reducible refine Kd.C_drewN ?_ _) | (with_reducible refine Kd.C_drew ?_))); (case side2 => exact HC0.out); (case side3 => repeat (first | exact (Kd.C_below HR1.out HB.out) | (with_reducible refine Kd.C_alloc ?_ _) | (with_reducible refine Kd.C_drewN ?_ _) | (with_reducible refine Kd.C_drew ?_))); (case side4 => exact HC1.out); (case side5 => repeat (first | exact (Kd.C_below HR2.out HB.out) | (with_reducible refine Kd.C_alloc ?_ _) | (with_reducible refine Kd.C_drewN ?_ _) | (with_reducible refine Kd.C_drew ?_))); (case side6 => exact HC2.out); rintro e w16 ⟨v105, rfl, ho0, hb⟩; have n0_ := Aside0.mk (Kd.R_lower ho0 (below_size (by repeat (first | (with_reducible first | exact HB.out | apply below_alloc | apply pw_below_drewN | apply below_drew1) | exact HB.out)))); have n1_ := Aside0.mk (below_step (by repeat (first | (with_reducible first | exact HB.out | apply below_alloc | apply pw_below_drewN | apply below_drew1) | exact HB.out)) hb); clear HB; have HO106 := n0_; have HB := n1_; clear n0_ n1_; (try clear hb); (try clear hb2); (try clear hk); (try clear hi); (try clear ho0)) | (go_at_call 51; (with_reducible refine (weave_Chunks.calls kj3 _ _ l0 _ _ l2 _ _ l1 t107 _ ?side1 ?side2 ?side3 ?side4 ?side5 ?side6 A14.out).mono ?_); (case side1 => repeat (first | exact (Kd.C_below HR0.out HB.out) | (with_reducible refine Kd.C_alloc ?_ _) | (with_reducible refine Kd.C_drewN ?_ _) | (with_reducible refine Kd.C_drew ?_))); (case side2 => exact HC0.out); (case side3 => repeat (first | exact (Kd.C_below HR2.out HB.out) | (with_reducible refine Kd.C_alloc ?_ _) | (with_reducible refine Kd.C_drewN ?_ _) | (with_reducible refine Kd.C_drew ?_))); (case side4 => exact HC2.out); (case side5 => repeat (first | exact (Kd.C_below HR1.out HB.out) | (with_reducible refine Kd.C_alloc ?_ _) | (with_reducible refine Kd.C_drewN ?_ _) | (with_reducible refine Kd.C_drew ?_))); (case side6 => exact HC1.out); rintro e w17 ⟨v108, rfl, ho0, hb⟩; have n0_ := Aside0.mk (Kd.R_elder' (by (with_reducible repeat (first | apply Kd.R_alloc | apply Kd.R_drewN | apply Kd.R_drew)); exact HO106.out) (Kd.R_base ho0) hb); have n1_ := Aside0.mk (Kd.R_lower (Kd.R_new' ho0 (Kd.R_lt (by (with_reducible repeat (first | apply Kd.R_alloc | apply Kd.R_drewN | apply Kd.R_drew)); exact HO106.out))) (below_size (by repeat (first | (with_reducible first | exact HB.out | apply below_alloc | apply pw_below_drewN | apply below_drew1) | exact HB.out)))); have n2_ := Aside0.mk (below_step (by repeat (first | (with_reducible first | exact HB.out | apply below_alloc | apply pw_below_drewN | apply below_drew1) | exact HB.out)) hb); clear HO106; clear HB; have HO106 := n0_; have HO109 := n1_; have HB := n2_; clear n0_ n1_ n2_; (try clear hb); (try clear hb2); (try clear hk); (try clear hi); (try clear ho0); obtain ⟨Ao18, co18, eo18⟩ := Kd.R_slice HO106.out; subst eo18; obtain ⟨Ao19, co19, eo19⟩ := Kd.R_slice HO109.out; subst eo19)); try go_wp2_with (first | (go_at_call 51; (with_reducible refine (weave_Chunks.calls kj3 _ _ l0 _ _ l1 _ _ l2 t104 _ ?side1 ?side2 ?side3 ?side4 ?side5 ?side6 A13.out).mono ?_); (case side1 => repeat (first | exact (Kd.C_below HR0.out HB.out) | (with_reducible refine Kd.C_alloc ?_ _) | (with_reducible refine Kd.C_drewN ?_ _) | (with_reducible refine Kd.C_drew ?_))); (case side2 => exact HC0.out); (case side3 => repeat (first | exact (Kd.C_below HR1.out HB.out) | (with_reducible refine Kd.C_alloc ?_ _) | (with_reducible refine Kd.C_drewN ?_ _) | (with_reducible refine Kd.C_drew ?_))); (case side4 => exact HC1.out); (case side5 => repeat (first | exact (Kd.C_below HR2.out HB.out) | (with_reducible refine Kd.C_alloc ?_ _) | (with_reducible refine Kd.C_drewN ?_ _) | (with_reducible refine Kd.C_drew ?_))); (case side6 => exact HC2.out); rintro e w16 ⟨v105, rfl, ho0, hb⟩; have n0_ := Aside0.mk (Kd.R_lower ho0 (below_size (by repeat (first | (with_reducible first | exact HB.out | apply below_alloc | apply pw_below_drewN | apply below_drew1) | exact HB.out)))); have n1_ := Aside0.mk (below_step (by repeat (first | (with_reducible first | exact HB.out | apply below_alloc | apply pw_below_drewN | apply below_drew1) | exact HB.out)) hb); clear HB; have HO106 := n0_; have HB := n1_; clear n0_ n1_; (try clear hb); (try clear hb2); (try clear hk); (try clear hi); (try clear ho0)) | (go_at_call 51; (with_reducible refine (weave_Chunks.calls kj3 _ _ l0 _ _ l2 _ _ l1 t107 _ ?side1 ?side2 ?side3 ?side4 ?side5 ?side6 A14.out).mono ?_); (case side1 => repeat (first | exact (Kd.C_below HR0.out HB.out) | (with_reducible refine Kd.C_alloc ?_ _) | (with_reducible refine Kd.C_drewN ?_ _) | (with_reducible refine Kd.C_drew ?_))); (case side2 => exact HC0.out); (case side3 => repeat (first | exact (Kd.C_below HR2.out HB.out) | (with_reducible refine Kd.C_alloc ?_ _) | (with_reducible refine Kd.C_drewN ?_ _) | (with_reducible refine Kd.C_drew ?_))); (case side4 => exact HC2.out); (case side5 => repeat (first | exact (Kd.C_below HR1.out HB.out) | (with_reducible refine Kd.C_alloc ?_ _) | (with_reducible refine Kd.C_drewN ?_ _) | (with_reducible refine Kd.C_drew ?_))); (case side6 => exact HC1.out); rintro e w17 ⟨v108, rfl, ho0, hb⟩; have n0_ := Aside0.mk (Kd.R_elder' (by (with_reducible repeat (first | apply Kd.R_alloc | apply Kd.R_drewN | apply Kd.R_drew)); exact HO106.out) (Kd.R_base ho0) hb); have n1_ := Aside0.mk (Kd.R_lower (Kd.R_new' ho0 (Kd.R_lt (by (with_reducible repeat (first | apply Kd.R_alloc | apply Kd.R_drewN | apply Kd.R_drew)); exact HO106.out))) (below_size (by repeat (first | (with_reducible first | exact HB.out | apply below_alloc | apply pw_below_drewN | apply below_drew1) | exact HB.out)))); have n2_ := Aside0.mk (below_step (by repeat (first | (with_reducible first | exact HB.out | apply below_alloc | apply pw_below_drewN | apply below_drew1) | exact HB.out)) hb); clear HO106; clear HB; have HO106 := n0_; have HO109 := n1_; have HB := n2_; clear n0_ n1_ n2_; (try clear hb); (try clear hb2); (try clear hk); (try clear hi); (try clear ho0); obtain ⟨Ao18, co18, eo18⟩ := Kd.R_slice HO106.out; subst eo18; obtain ⟨Ao19, co19, eo19⟩ := Kd.R_slice HO109.out; subst eo19)))
     go_loopg [40] kj3 (fun kq v40 w' => ∃ (x40_2 : Int), v40 = .int .i64 x40_2 ∧ Aside0 (emendationlaw05_WeaveTurns.l0 kq l0 l1 l2 t104 t107 (t104.length : Int) x40_2 = some r) ∧ Aside0 (kq ≤ kj3) ∧ Aside0 (Kd.R k75 75 w' w.heap.size (fun k_ => some k_ ≠ ((.slice Ao19 t107.length co19) : Value).ownBlock) (.slice Ao18 t104.length co18) t104) ∧ Aside0 (Kd.R k75 75 w' w.heap.size (fun k_ => some k_ ≠ ((.slice Ao18 t104.length co18) : Value).ownBlock) (.slice Ao19 t107.length co19) t107) ∧ Aside0 (Below w.heap.size w w'))
     case atStart => exact ⟨(0), (by first | rfl | (simp; done) | (simp [*]; done)), H', ⟨Nat.le_refl _⟩, ⟨by (with_reducible repeat (first | apply Kd.R_alloc | apply Kd.R_drewN | apply Kd.R_drew)); exact Kd.R_mono HO106.out (fun _ hk => hk.2)⟩, ⟨by (with_reducible repeat (first | apply Kd.R_alloc | apply Kd.R_drewN | apply Kd.R_drew)); exact Kd.R_mono HO109.out (fun _ hk => hk.2)⟩, ⟨by repeat (first | (with_reducible first | exact HB.out | apply below_alloc | apply pw_below_drewN | apply below_drew1) | exact HB.out)⟩⟩
     case round =>
      clear H'
      try clear c1
      try clear c2
      try clear p2
      try clear c6
      try clear c10
      try clear c15
      try clear c15b0
      try clear c15b1
      try clear c15b2
      try clear c18
      try clear p2
      obtain ⟨x40_2, rfl, HA, HK2, HO_7, HO_8, HB⟩ := hrel
      cases gk with
      | zero => exact absurd HA.out (by simp [emendationlaw05_WeaveTurns.l0])
      | succ k2 =>
       have H := HA.out
       clear HA
       simp only [emendationlaw05_WeaveTurns.l0] at H
       by_cases c20 : x40_2 < (t104.length : Int)
       ·
        rw [if_pos c20] at H
        have c20b0 : decide (x40_2 < (t104.length : Int)) = true := decide_eq_true c20
        clear c20
        by_cases c21 : 0 ≤ x40_2
        ·
         rw [if_pos c21] at H
         have c21b0 : decide (0 ≤ x40_2) = true := decide_eq_true c21
         clear c21
         by_cases c22 : x40_2 < (t107.length : Int)
         ·
          rw [if_pos c22] at H
          have c22b0 : decide (x40_2 < (t107.length : Int)) = true := decide_eq_true c22
          clear c22
          by_cases c23 : ((rd_T75 t107 x40_2).f3) = 2
          ·
           rw [if_pos c23] at H
           have c23b0 : (((rd_T75 t107 x40_2).f3) == 2) = true := beq_iff_eq.mpr c23
           have c23b1 : (((rd_T75 t107 x40_2).f3) != 2) = false := bne_eq_false_iff_eq.mpr c23
           clear c23
           by_cases c24 : x40_2 < (t104.length : Int)
           ·
            rw [if_pos c24] at H
            have c24b0 : decide (x40_2 < (t104.length : Int)) = true := decide_eq_true c24
            clear c24
            by_cases c25 : ((!(((rd_T75 t104 x40_2).f0.f0) == ((rd_T75 t107 x40_2).f0.f0)) || (!(((rd_T75 t104 x40_2).f0.f1) == ((rd_T75 t107 x40_2).f0.f1)))) || ((!(((rd_T75 t104 x40_2).f1.f0) == ((rd_T75 t107 x40_2).f2.f0)) || (!(((rd_T75 t104 x40_2).f1.f1) == ((rd_T75 t107 x40_2).f2.f1)))) || ((!(((rd_T75 t104 x40_2).f2.f0) == ((rd_T75 t107 x40_2).f1.f0)) || (!(((rd_T75 t104 x40_2).f2.f1) == ((rd_T75 t107 x40_2).f1.f1)))) || (!(((rd_T75 t104 x40_2).f3) == 3))))) = true
            ·
             rw [if_pos c25] at H
             have c25b0 : ((!(((rd_T75 t104 x40_2).f0.f0) == ((rd_T75 t107 x40_2).f0.f0)) || (!(((rd_T75 t104 x40_2).f0.f1) == ((rd_T75 t107 x40_2).f0.f1)))) || ((!(((rd_T75 t104 x40_2).f1.f0) == ((rd_T75 t107 x40_2).f2.f0)) || (!(((rd_T75 t104 x40_2).f1.f1) == ((rd_T75 t107 x40_2).f2.f1)))) || ((!(((rd_T75 t104 x40_2).f2.f0) == ((rd_T75 t107 x40_2).f1.f0)) || (!(((rd_T75 t104 x40_2).f2.f1) == ((rd_T75 t107 x40_2).f1.f1)))) || (!(((rd_T75 t104 x40_2).f3) == 3))))) = true := c25
             clear c25
             obtain rfl := Option.some.inj H
             have p119 : 0 ≤ (x40_2 : Int) := of_decide_eq_true (by first | (with_reducible assumption) | assumption)
             have q119 : x40_2 < (t107.length : Int) := of_decide_eq_true (by first | (with_reducible assumption) | assumption)
             obtain ⟨ad119, e119, hx119_0, hx119_1, hx119_2, hx119_3, hx119_4, hx119_5, hx119_6⟩ := at_T75 (Kd.R_reads' HO_8.out).2.2 x40_2 p119 q119
             cases e119
             replace p119 := eq_true p119
             replace q119 := eq_true q119
             have p121 : 0 ≤ (x40_2 : Int) := of_decide_eq_true (by first | (with_reducible assumption) | assumption)
             have q121 : x40_2 < (t104.length : Int) := of_decide_eq_true (by first | (with_reducible assumption) | assumption)
             obtain ⟨ad121, e121, hx121_0, hx121_1, hx121_2, hx121_3, hx121_4, hx121_5, hx121_6⟩ := at_T75 (Kd.R_reads' HO_7.out).2.2 x40_2 p121 q121
             cases e121
             replace p121 := eq_true p121
             replace q121 := eq_true q121
             have hy0 := fun o : Obj => cell_alloc o hx121_0
             have hy1 := fun o : Obj => cell_alloc o hx121_1
             have hy2 := fun o : Obj => cell_alloc o hx121_2
             have hy3 := fun o : Obj => cell_alloc o hx121_3
             have hy4 := fun o : Obj => cell_alloc o hx121_4
             have hy5 := fun o : Obj => cell_alloc o hx121_5
             have hy6 := fun o : Obj => cell_alloc o hx121_6
             go_wp2
             go_quiet (fail)
             try go_wp2
             go_ret
             exact ⟨by first | rfl | (simp [errW_none, errW_some] <;> rfl) | (simp [*, errW_none, errW_some] <;> rfl), by repeat (first | (with_reducible first | exact HB.out | apply below_alloc | apply pw_below_drewN | apply below_drew1 | refine below_set ?_ GE120.out) | exact HB.out)⟩
            ·
             rw [if_neg c25] at H
             have c25b0 : ((!(((rd_T75 t104 x40_2).f0.f0) == ((rd_T75 t107 x40_2).f0.f0)) || (!(((rd_T75 t104 x40_2).f0.f1) == ((rd_T75 t107 x40_2).f0.f1)))) || ((!(((rd_T75 t104 x40_2).f1.f0) == ((rd_T75 t107 x40_2).f2.f0)) || (!(((rd_T75 t104 x40_2).f1.f1) == ((rd_T75 t107 x40_2).f2.f1)))) || ((!(((rd_T75 t104 x40_2).f2.f0) == ((rd_T75 t107 x40_2).f1.f0)) || (!(((rd_T75 t104 x40_2).f2.f1) == ((rd_T75 t107 x40_2).f1.f1)))) || (!(((rd_T75 t104 x40_2).f3) == 3))))) = false := by simpa using c25
             clear c25
             have H' := Aside0.mk H
             clear H
             have p119 : 0 ≤ (x40_2 : Int) := of_decide_eq_true (by first | (with_reducible assumption) | assumption)
             have q119 : x40_2 < (t107.length : Int) := of_decide_eq_true (by first | (with_reducible assumption) | assumption)
             obtain ⟨ad119, e119, hx119_0, hx119_1, hx119_2, hx119_3, hx119_4, hx119_5, hx119_6⟩ := at_T75 (Kd.R_reads' HO_8.out).2.2 x40_2 p119 q119
             cases e119
             replace p119 := eq_true p119
             replace q119 := eq_true q119
             have p121 : 0 ≤ (x40_2 : Int) := of_decide_eq_true (by first | (with_reducible assumption) | assumption)
             have q121 : x40_2 < (t104.length : Int) := of_decide_eq_true (by first | (with_reducible assumption) | assumption)
             obtain ⟨ad121, e121, hx121_0, hx121_1, hx121_2, hx121_3, hx121_4, hx121_5, hx121_6⟩ := at_T75 (Kd.R_reads' HO_7.out).2.2 x40_2 p121 q121
             cases e121
             replace p121 := eq_true p121
             replace q121 := eq_true q121
             have hy0 := fun o : Obj => cell_alloc o hx121_0
             have hy1 := fun o : Obj => cell_alloc o hx121_1
             have hy2 := fun o : Obj => cell_alloc o hx121_2
             have hy3 := fun o : Obj => cell_alloc o hx121_3
             have hy4 := fun o : Obj => cell_alloc o hx121_4
             have hy5 := fun o : Obj => cell_alloc o hx121_5
             have hy6 := fun o : Obj => cell_alloc o hx121_6
             go_wp2
             go_quiet (fail)
             try go_wp2
             go_roundg k2
             case measure => have := HJ3.out; have := HK2.out; omega
             case rel => exact ⟨(wrap64 (x40_2 + 1)), (by first | rfl | (simp; done) | (simp [*]; done)), H', ⟨by have := HJ3.out; have := HK2.out; omega⟩, ⟨by (with_reducible repeat (first | apply Kd.R_alloc | apply Kd.R_drewN | apply Kd.R_drew)); exact HO_7.out⟩, ⟨by (with_reducible repeat (first | apply Kd.R_alloc | apply Kd.R_drewN | apply Kd.R_drew)); exact HO_8.out⟩, ⟨by repeat (first | (with_reducible first | exact HB.out | apply below_alloc | apply pw_below_drewN | apply below_drew1 | refine below_set ?_ GE120.out) | exact HB.out)⟩⟩
           ·
            rw [if_neg c24] at H
            exact absurd H (by simp)
          ·
           rw [if_neg c23] at H
           have c23b0 : (((rd_T75 t107 x40_2).f3) == 2) = false := beq_eq_false_iff_ne.mpr c23
           have c23b1 : (((rd_T75 t107 x40_2).f3) != 2) = true := bne_iff_ne.mpr c23
           by_cases c30 : ((rd_T75 t107 x40_2).f3) = 3
           ·
            rw [if_pos c30] at H
            have c30b0 : (((rd_T75 t107 x40_2).f3) == 3) = true := beq_iff_eq.mpr c30
            have c30b1 : (((rd_T75 t107 x40_2).f3) != 3) = false := bne_eq_false_iff_eq.mpr c30
            clear c30
            by_cases c31 : x40_2 < (t104.length : Int)
            ·
             rw [if_pos c31] at H
             have c31b0 : decide (x40_2 < (t104.length : Int)) = true := decide_eq_true c31
             clear c31
             by_cases c32 : ((!(((rd_T75 t104 x40_2).f0.f0) == ((rd_T75 t107 x40_2).f0.f0)) || (!(((rd_T75 t104 x40_2).f0.f1) == ((rd_T75 t107 x40_2).f0.f1)))) || ((!(((rd_T75 t104 x40_2).f1.f0) == ((rd_T75 t107 x40_2).f2.f0)) || (!(((rd_T75 t104 x40_2).f1.f1) == ((rd_T75 t107 x40_2).f2.f1)))) || ((!(((rd_T75 t104 x40_2).f2.f0) == ((rd_T75 t107 x40_2).f1.f0)) || (!(((rd_T75 t104 x40_2).f2.f1) == ((rd_T75 t107 x40_2).f1.f1)))) || (!(((rd_T75 t104 x40_2).f3) == 2))))) = true
             ·
              rw [if_pos c32] at H
              have c32b0 : ((!(((rd_T75 t104 x40_2).f0.f0) == ((rd_T75 t107 x40_2).f0.f0)) || (!(((rd_T75 t104 x40_2).f0.f1) == ((rd_T75 t107 x40_2).f0.f1)))) || ((!(((rd_T75 t104 x40_2).f1.f0) == ((rd_T75 t107 x40_2).f2.f0)) || (!(((rd_T75 t104 x40_2).f1.f1) == ((rd_T75 t107 x40_2).f2.f1)))) || ((!(((rd_T75 t104 x40_2).f2.f0) == ((rd_T75 t107 x40_2).f1.f0)) || (!(((rd_T75 t104 x40_2).f2.f1) == ((rd_T75 t107 x40_2).f1.f1)))) || (!(((rd_T75 t104 x40_2).f3) == 2))))) = true := c32
              clear c32
              obtain rfl := Option.some.inj H
              have p119 : 0 ≤ (x40_2 : Int) := of_decide_eq_true (by first | (with_reducible assumption) | assumption)
              have q119 : x40_2 < (t107.length : Int) := of_decide_eq_true (by first | (with_reducible assumption) | assumption)
              obtain ⟨ad119, e119, hx119_0, hx119_1, hx119_2, hx119_3, hx119_4, hx119_5, hx119_6⟩ := at_T75 (Kd.R_reads' HO_8.out).2.2 x40_2 p119 q119
              cases e119
              replace p119 := eq_true p119
              replace q119 := eq_true q119
              have p122 : 0 ≤ (x40_2 : Int) := of_decide_eq_true (by first | (with_reducible assumption) | assumption)
              have q122 : x40_2 < (t104.length : Int) := of_decide_eq_true (by first | (with_reducible assumption) | assumption)
              obtain ⟨ad122, e122, hx122_0, hx122_1, hx122_2, hx122_3, hx122_4, hx122_5, hx122_6⟩ := at_T75 (Kd.R_reads' HO_7.out).2.2 x40_2 p122 q122
              cases e122
              replace p122 := eq_true p122
              replace q122 := eq_true q122
              have hy0 := fun o : Obj => cell_alloc o hx122_0
              have hy1 := fun o : Obj => cell_alloc o hx122_1
              have hy2 := fun o : Obj => cell_alloc o hx122_2
              have hy3 := fun o : Obj => cell_alloc o hx122_3
              have hy4 := fun o : Obj => cell_alloc o hx122_4
              have hy5 := fun o : Obj => cell_alloc o hx122_5
              have hy6 := fun o : Obj => cell_alloc o hx122_6
              go_wp2
              go_quiet (fail)
              try go_wp2
              go_ret
              exact ⟨by first | rfl | (simp [errW_none, errW_some] <;> rfl) | (simp [*, errW_none, errW_some] <;> rfl), by repeat (first | (with_reducible first | exact HB.out | apply below_alloc | apply pw_below_drewN | apply below_drew1 | refine below_set ?_ GE120.out) | exact HB.out)⟩
             ·
              rw [if_neg c32] at H
              have c32b0 : ((!(((rd_T75 t104 x40_2).f0.f0) == ((rd_T75 t107 x40_2).f0.f0)) || (!(((rd_T75 t104 x40_2).f0.f1) == ((rd_T75 t107 x40_2).f0.f1)))) || ((!(((rd_T75 t104 x40_2).f1.f0) == ((rd_T75 t107 x40_2).f2.f0)) || (!(((rd_T75 t104 x40_2).f1.f1) == ((rd_T75 t107 x40_2).f2.f1)))) || ((!(((rd_T75 t104 x40_2).f2.f0) == ((rd_T75 t107 x40_2).f1.f0)) || (!(((rd_T75 t104 x40_2).f2.f1) == ((rd_T75 t107 x40_2).f1.f1)))) || (!(((rd_T75 t104 x40_2).f3) == 2))))) = false := by simpa using c32
              clear c32
              have H' := Aside0.mk H
              clear H
              have p119 : 0 ≤ (x40_2 : Int) := of_decide_eq_true (by first | (with_reducible assumption) | assumption)
              have q119 : x40_2 < (t107.length : Int) := of_decide_eq_true (by first | (with_reducible assumption) | assumption)
              obtain ⟨ad119, e119, hx119_0, hx119_1, hx119_2, hx119_3, hx119_4, hx119_5, hx119_6⟩ := at_T75 (Kd.R_reads' HO_8.out).2.2 x40_2 p119 q119
              cases e119
              replace p119 := eq_true p119
              replace q119 := eq_true q119
              have p122 : 0 ≤ (x40_2 : Int) := of_decide_eq_true (by first | (with_reducible assumption) | assumption)
              have q122 : x40_2 < (t104.length : Int) := of_decide_eq_true (by first | (with_reducible assumption) | assumption)
              obtain ⟨ad122, e122, hx122_0, hx122_1, hx122_2, hx122_3, hx122_4, hx122_5, hx122_6⟩ := at_T75 (Kd.R_reads' HO_7.out).2.2 x40_2 p122 q122
              cases e122
              replace p122 := eq_true p122
              replace q122 := eq_true q122
              have hy0 := fun o : Obj => cell_alloc o hx122_0
              have hy1 := fun o : Obj => cell_alloc o hx122_1
              have hy2 := fun o : Obj => cell_alloc o hx122_2
              have hy3 := fun o : Obj => cell_alloc o hx122_3
              have hy4 := fun o : Obj => cell_alloc o hx122_4
              have hy5 := fun o : Obj => cell_alloc o hx122_5
              have hy6 := fun o : Obj => cell_alloc o hx122_6
              go_wp2
              go_quiet (fail)
              try go_wp2
              go_roundg k2
              case measure => have := HJ3.out; have := HK2.out; omega
              case rel => exact ⟨(wrap64 (x40_2 + 1)), (by first | rfl | (simp; done) | (simp [*]; done)), H', ⟨by have := HJ3.out; have := HK2.out; omega⟩, ⟨by (with_reducible repeat (first | apply Kd.R_alloc | apply Kd.R_drewN | apply Kd.R_drew)); exact HO_7.out⟩, ⟨by (with_reducible repeat (first | apply Kd.R_alloc | apply Kd.R_drewN | apply Kd.R_drew)); exact HO_8.out⟩, ⟨by repeat (first | (with_reducible first | exact HB.out | apply below_alloc | apply pw_below_drewN | apply below_drew1 | refine below_set ?_ GE120.out) | exact HB.out)⟩⟩
            ·
             rw [if_neg c31] at H
             exact absurd H (by simp)
           ·
            rw [if_neg c30] at H
            have c30b0 : (((rd_T75 t107 x40_2).f3) == 3) = false := beq_eq_false_iff_ne.mpr c30
            have c30b1 : (((rd_T75 t107 x40_2).f3) != 3) = true := bne_iff_ne.mpr c30
            by_cases c37 : x40_2 < (t104.length : Int)
            ·
             rw [if_pos c37] at H
             have c37b0 : decide (x40_2 < (t104.length : Int)) = true := decide_eq_true c37
             clear c37
             by_cases c38 : ((!(((rd_T75 t104 x40_2).f0.f0) == ((rd_T75 t107 x40_2).f0.f0)) || (!(((rd_T75 t104 x40_2).f0.f1) == ((rd_T75 t107 x40_2).f0.f1)))) || ((!(((rd_T75 t104 x40_2).f1.f0) == ((rd_T75 t107 x40_2).f2.f0)) || (!(((rd_T75 t104 x40_2).f1.f1) == ((rd_T75 t107 x40_2).f2.f1)))) || ((!(((rd_T75 t104 x40_2).f2.f0) == ((rd_T75 t107 x40_2).f1.f0)) || (!(((rd_T75 t104 x40_2).f2.f1) == ((rd_T75 t107 x40_2).f1.f1)))) || (!(((rd_T75 t104 x40_2).f3) == ((rd_T75 t107 x40_2).f3)))))) = true
             ·
              rw [if_pos c38] at H
              have c38b0 : ((!(((rd_T75 t104 x40_2).f0.f0) == ((rd_T75 t107 x40_2).f0.f0)) || (!(((rd_T75 t104 x40_2).f0.f1) == ((rd_T75 t107 x40_2).f0.f1)))) || ((!(((rd_T75 t104 x40_2).f1.f0) == ((rd_T75 t107 x40_2).f2.f0)) || (!(((rd_T75 t104 x40_2).f1.f1) == ((rd_T75 t107 x40_2).f2.f1)))) || ((!(((rd_T75 t104 x40_2).f2.f0) == ((rd_T75 t107 x40_2).f1.f0)) || (!(((rd_T75 t104 x40_2).f2.f1) == ((rd_T75 t107 x40_2).f1.f1)))) || (!(((rd_T75 t104 x40_2).f3) == ((rd_T75 t107 x40_2).f3)))))) = true := c38
              clear c38
              obtain rfl := Option.some.inj H
              have p119 : 0 ≤ (x40_2 : Int) := of_decide_eq_true (by first | (with_reducible assumption) | assumption)
              have q119 : x40_2 < (t107.length : Int) := of_decide_eq_true (by first | (with_reducible assumption) | assumption)
              obtain ⟨ad119, e119, hx119_0, hx119_1, hx119_2, hx119_3, hx119_4, hx119_5, hx119_6⟩ := at_T75 (Kd.R_reads' HO_8.out).2.2 x40_2 p119 q119
              cases e119
              replace p119 := eq_true p119
              replace q119 := eq_true q119
              have p123 : 0 ≤ (x40_2 : Int) := of_decide_eq_true (by first | (with_reducible assumption) | assumption)
              have q123 : x40_2 < (t104.length : Int) := of_decide_eq_true (by first | (with_reducible assumption) | assumption)
              obtain ⟨ad123, e123, hx123_0, hx123_1, hx123_2, hx123_3, hx123_4, hx123_5, hx123_6⟩ := at_T75 (Kd.R_reads' HO_7.out).2.2 x40_2 p123 q123
              cases e123
              replace p123 := eq_true p123
              replace q123 := eq_true q123
              have hy0 := fun o : Obj => cell_alloc o hx123_0
              have hy1 := fun o : Obj => cell_alloc o hx123_1
              have hy2 := fun o : Obj => cell_alloc o hx123_2
              have hy3 := fun o : Obj => cell_alloc o hx123_3
              have hy4 := fun o : Obj => cell_alloc o hx123_4
              have hy5 := fun o : Obj => cell_alloc o hx123_5
              have hy6 := fun o : Obj => cell_alloc o hx123_6
              go_wp2
              go_quiet (fail)
              try go_wp2
              go_ret
              exact ⟨by first | rfl | (simp [errW_none, errW_some] <;> rfl) | (simp [*, errW_none, errW_some] <;> rfl), by repeat (first | (with_reducible first | exact HB.out | apply below_alloc | apply pw_below_drewN | apply below_drew1 | refine below_set ?_ GE120.out) | exact HB.out)⟩
             ·
              rw [if_neg c38] at H
              have c38b0 : ((!(((rd_T75 t104 x40_2).f0.f0) == ((rd_T75 t107 x40_2).f0.f0)) || (!(((rd_T75 t104 x40_2).f0.f1) == ((rd_T75 t107 x40_2).f0.f1)))) || ((!(((rd_T75 t104 x40_2).f1.f0) == ((rd_T75 t107 x40_2).f2.f0)) || (!(((rd_T75 t104 x40_2).f1.f1) == ((rd_T75 t107 x40_2).f2.f1)))) || ((!(((rd_T75 t104 x40_2).f2.f0) == ((rd_T75 t107 x40_2).f1.f0)) || (!(((rd_T75 t104 x40_2).f2.f1) == ((rd_T75 t107 x40_2).f1.f1)))) || (!(((rd_T75 t104 x40_2).f3) == ((rd_T75 t107 x40_2).f3)))))) = false := by simpa using c38
              clear c38
              have H' := Aside0.mk H
              clear H
              have p119 : 0 ≤ (x40_2 : Int) := of_decide_eq_true (by first | (with_reducible assumption) | assumption)
              have q119 : x40_2 < (t107.length : Int) := of_decide_eq_true (by first | (with_reducible assumption) | assumption)
              obtain ⟨ad119, e119, hx119_0, hx119_1, hx119_2, hx119_3, hx119_4, hx119_5, hx119_6⟩ := at_T75 (Kd.R_reads' HO_8.out).2.2 x40_2 p119 q119
              cases e119
              replace p119 := eq_true p119
              replace q119 := eq_true q119
              have p123 : 0 ≤ (x40_2 : Int) := of_decide_eq_true (by first | (with_reducible assumption) | assumption)
              have q123 : x40_2 < (t104.length : Int) := of_decide_eq_true (by first | (with_reducible assumption) | assumption)
              obtain ⟨ad123, e123, hx123_0, hx123_1, hx123_2, hx123_3, hx123_4, hx123_5, hx123_6⟩ := at_T75 (Kd.R_reads' HO_7.out).2.2 x40_2 p123 q123
              cases e123
              replace p123 := eq_true p123
              replace q123 := eq_true q123
              have hy0 := fun o : Obj => cell_alloc o hx123_0
              have hy1 := fun o : Obj => cell_alloc o hx123_1
              have hy2 := fun o : Obj => cell_alloc o hx123_2
              have hy3 := fun o : Obj => cell_alloc o hx123_3
              have hy4 := fun o : Obj => cell_alloc o hx123_4
              have hy5 := fun o : Obj => cell_alloc o hx123_5
              have hy6 := fun o : Obj => cell_alloc o hx123_6
              go_wp2
              go_quiet (fail)
              try go_wp2
              go_roundg k2
              case measure => have := HJ3.out; have := HK2.out; omega
              case rel => exact ⟨(wrap64 (x40_2 + 1)), (by first | rfl | (simp; done) | (simp [*]; done)), H', ⟨by have := HJ3.out; have := HK2.out; omega⟩, ⟨by (with_reducible repeat (first | apply Kd.R_alloc | apply Kd.R_drewN | apply Kd.R_drew)); exact HO_7.out⟩, ⟨by (with_reducible repeat (first | apply Kd.R_alloc | apply Kd.R_drewN | apply Kd.R_drew)); exact HO_8.out⟩, ⟨by repeat (first | (with_reducible first | exact HB.out | apply below_alloc | apply pw_below_drewN | apply below_drew1 | refine below_set ?_ GE120.out) | exact HB.out)⟩⟩
            ·
             rw [if_neg c37] at H
             exact absurd H (by simp)
         ·
          rw [if_neg c22] at H
          exact absurd H (by simp)
        ·
         rw [if_neg c21] at H
         exact absurd H (by simp)
       ·
        rw [if_neg c20] at H
        have c20b0 : decide (x40_2 < (t104.length : Int)) = false := decide_eq_false c20
        clear c20
        replace H := Option.bind_eq_some_iff.mp H
        obtain ⟨⟨t110, t111⟩, A430, H⟩ := H
        replace H : ((weave_Merge.f k2 l0 l2 l1).bind fun bt114 => (if (t111 == bt114.2) = true then ((emendationref03_Same.f k2 t110 bt114.1).bind fun t118 => (some t118)) else (some false))) = some r := H
        have A43 := Aside0.mk A430
        clear A430
        replace H := Option.bind_eq_some_iff.mp H
        obtain ⟨⟨t114, t115⟩, A440, H⟩ := H
        replace H : (if (t111 == t115) = true then ((emendationref03_Same.f k2 t110 t114).bind fun t118 => (some t118)) else (some false)) = some r := H
        have A44 := Aside0.mk A440
        clear A440
        by_cases c45 : (t111 == t115) = true
        ·
         rw [if_pos c45] at H
         have c45b0 : (t111 == t115) = true := c45
         (try (have c45b1 : decide (t111 = t115) = true := by simpa using c45))
         (try (have c45b2 : (t111 == t115) = true := by simpa using c45))
         clear c45
         replace H := Option.bind_eq_some_iff.mp H
         obtain ⟨t118, A460, H⟩ := H
         replace H : (some t118) = some r := H
         have A46 := Aside0.mk A460
         clear A460
         obtain rfl := Option.some.inj H
         go_wp2_with (first | (go_at_call 53; (with_reducible refine (weave_Merge.calls k2 _ _ l0 _ _ l1 _ _ l2 t110 t111 _ ?side1 ?side2 ?side3 ?side4 ?side5 ?side6 A43.out).mono ?_); (case side1 => repeat (first | exact (Kd.C_below HR0.out HB.out) | (with_reducible refine Kd.C_alloc ?_ _) | (with_reducible refine Kd.C_drewN ?_ _) | (with_reducible refine Kd.C_drew ?_))); (case side2 => exact HC0.out); (case side3 => repeat (first | exact (Kd.C_below HR1.out HB.out) | (with_reducible refine Kd.C_alloc ?_ _) | (with_reducible refine Kd.C_drewN ?_ _) | (with_reducible refine Kd.C_drew ?_))); (case side4 => exact HC1.out); (case side5 => repeat (first | exact (Kd.C_below HR2.out HB.out) | (with_reducible refine Kd.C_alloc ?_ _) | (with_reducible refine Kd.C_drewN ?_ _) | (with_reducible refine Kd.C_drew ?_))); (case side6 => exact HC2.out); rintro e w47 ⟨v112, rfl, ho0, hb⟩; have n0_ := Aside0.mk (Kd.R_below (by (with_reducible repeat (first | apply Kd.R_alloc | apply Kd.R_drewN | apply Kd.R_drew)); exact HO_7.out) hb); have n1_ := Aside0.mk (Kd.R_below (by (with_reducible repeat (first | apply Kd.R_alloc | apply Kd.R_drewN | apply Kd.R_drew)); exact HO_8.out) hb); have n2_ := Aside0.mk (Kd.R_lower ho0 (below_size (by repeat (first | (with_reducible first | exact HB.out | apply below_alloc | apply pw_below_drewN | apply below_drew1) | exact HB.out)))); have n3_ := Aside0.mk (below_step (by repeat (first | (with_reducible first | exact HB.out | apply below_alloc | apply pw_below_drewN | apply below_drew1) | exact HB.out)) hb); clear HO_7; clear HO_8; clear HB; have HO_7 := n0_; have HO_8 := n1_; have HO113 := n2_; have HB := n3_; clear n0_ n1_ n2_ n3_; (try clear hb); (try clear hb2); (try clear hk); (try clear hi); (try clear ho0)) | (go_at_call 53; (with_reducible refine (weave_Merge.calls k2 _ _ l0 _ _ l2 _ _ l1 t114 t115 _ ?side1 ?side2 ?side3 ?side4 ?side5 ?side6 A44.out).mono ?_); (case side1 => repeat (first | exact (Kd.C_below HR0.out HB.out) | (with_reducible refine Kd.C_alloc ?_ _) | (with_reducible refine Kd.C_drewN ?_ _) | (with_reducible refine Kd.C_drew ?_))); (case side2 => exact HC0.out); (case side3 => repeat (first | exact (Kd.C_below HR2.out HB.out) | (with_reducible refine Kd.C_alloc ?_ _) | (with_reducible refine Kd.C_drewN ?_ _) | (with_reducible refine Kd.C_drew ?_))); (case side4 => exact HC2.out); (case side5 => repeat (first | exact (Kd.C_below HR1.out HB.out) | (with_reducible refine Kd.C_alloc ?_ _) | (with_reducible refine Kd.C_drewN ?_ _) | (with_reducible refine Kd.C_drew ?_))); (case side6 => exact HC1.out); rintro e w48 ⟨v116, rfl, ho0, hb⟩; have n0_ := Aside0.mk (Kd.R_below (by (with_reducible repeat (first | apply Kd.R_alloc | apply Kd.R_drewN | apply Kd.R_drew)); exact HO_7.out) hb); have n1_ := Aside0.mk (Kd.R_below (by (with_reducible repeat (first | apply Kd.R_alloc | apply Kd.R_drewN | apply Kd.R_drew)); exact HO_8.out) hb); have n2_ := Aside0.mk (Kd.R_elder' (by (with_reducible repeat (first | apply Kd.R_alloc | apply Kd.R_drewN | apply Kd.R_drew)); exact HO113.out) (Kd.R_base ho0) hb); have n3_ := Aside0.mk (Kd.R_lower (Kd.R_new' ho0 (Kd.R_lt (by (with_reducible repeat (first | apply Kd.R_alloc | apply Kd.R_drewN | apply Kd.R_drew)); exact HO113.out))) (below_size (by repeat (first | (with_reducible first | exact HB.out | apply below_alloc | apply pw_below_drewN | apply below_drew1) | exact HB.out)))); have n4_ := Aside0.mk (below_step (by repeat (first | (with_reducible first | exact HB.out | apply below_alloc | apply pw_below_drewN | apply below_drew1) | exact HB.out)) hb); clear HO_7; clear HO_8; clear HO113; clear HB; have HO_7 := n0_; have HO_8 := n1_; have HO113 := n2_; have HO117 := n3_; have HB := n4_; clear n0_ n1_ n2_ n3_ n4_; (try clear hb); (try clear hb2); (try clear hk); (try clear hi); (try clear ho0); obtain ⟨Ao49, co49, eo49⟩ := Kd.R_slice HO113.out; subst eo49; obtain ⟨Ao50, co50, eo50⟩ := Kd.R_slice HO117.out; subst eo50) | (go_at_call 59; (with_reducible refine (emendationref03_Same.calls k2 _ _ t110 _ _ t114 t118 _ ?side1 ?side2 ?side3 ?side4 A46.out).mono ?_); (case side1 => repeat (first | exact (Kd.R_reads' HO113.out).2.2 | (with_reducible refine Kd.C_alloc ?_ _) | (with_reducible refine Kd.C_drewN ?_ _) | (with_reducible refine Kd.C_drew ?_))); (case side2 => exact (Kd.R_reads' HO113.out).2.1); (case side3 => repeat (first | exact (Kd.R_reads' HO117.out).2.2 | (with_reducible refine Kd.C_alloc ?_ _) | (with_reducible refine Kd.C_drewN ?_ _) | (with_reducible refine Kd.C_drew ?_))); (case side4 => exact (Kd.R_reads' HO117.out).2.1); rintro e w' ⟨rfl, ⟨nd, rfl⟩⟩; (try first | exact ⟨rfl, _, World.drewN_drewN _ _ _⟩ | exact ⟨rfl, _, Eq.trans (World.drewN_drewN _ _ _) (congrArg (World.drewN _) (Nat.add_assoc _ _ _))⟩)))
         repeat (go_quiet (first | (go_at_call 53; (with_reducible refine (weave_Merge.calls k2 _ _ l0 _ _ l1 _ _ l2 t110 t111 _ ?side1 ?side2 ?side3 ?side4 ?side5 ?side6 A43.out).mono ?_); (case side1 => repeat (first | exact (Kd.C_below HR0.out HB.out) | (with_reducible refine Kd.C_alloc ?_ _) | (with_reducible refine Kd.C_drewN ?_ _) | (with_reducible refine Kd.C_drew ?_))); (case side2 => exact HC0.out); (case side3 => repeat (first | exact (Kd.C_below HR1.out HB.out) | (with_reducible refine Kd.C_alloc ?_ _) | (with_reducible refine Kd.C_drewN ?_ _) | (with_reducible refine Kd.C_drew ?_))); (case side4 => exact HC1.out); (case side5 => repeat (first | exact (Kd.C_below HR2.out HB.out) | (with_reducible refine Kd.C_alloc ?_ _) | (with_reducible refine Kd.C_drewN ?_ _) | (with_reducible refine Kd.C_drew ?_))); (case side6 => exact HC2.out); rintro e w47 ⟨v112, rfl, ho0, hb⟩; have n0_ := Aside0.mk (Kd.R_below (by (with_reducible repeat (first | apply Kd.R_alloc | apply Kd.R_drewN | apply Kd.R_drew)); exact HO_7.out) hb); have n1_ := Aside0.mk (Kd.R_below (by (with_reducible repeat (first | apply Kd.R_alloc | apply Kd.R_drewN | apply Kd.R_drew)); exact HO_8.out) hb); have n2_ := Aside0.mk (Kd.R_lower ho0 (below_size (by repeat (first | (with_reducible first | exact HB.out | apply below_alloc | apply pw_below_drewN | apply below_drew1) | exact HB.out)))); have n3_ := Aside0.mk (below_step (by repeat (first | (with_reducible first | exact HB.out | apply below_alloc | apply pw_below_drewN | apply below_drew1) | exact HB.out)) hb); clear HO_7; clear HO_8; clear HB; have HO_7 := n0_; have HO_8 := n1_; have HO113 := n2_; have HB := n3_; clear n0_ n1_ n2_ n3_; (try clear hb); (try clear hb2); (try clear hk); (try clear hi); (try clear ho0)) | (go_at_call 53; (with_reducible refine (weave_Merge.calls k2 _ _ l0 _ _ l2 _ _ l1 t114 t115 _ ?side1 ?side2 ?side3 ?side4 ?side5 ?side6 A44.out).mono ?_); (case side1 => repeat (first | exact (Kd.C_below HR0.out HB.out) | (with_reducible refine Kd.C_alloc ?_ _) | (with_reducible refine Kd.C_drewN ?_ _) | (with_reducible refine Kd.C_drew ?_))); (case side2 => exact HC0.out); (case side3 => repeat (first | exact (Kd.C_below HR2.out HB.out) | (with_reducible refine Kd.C_alloc ?_ _) | (with_reducible refine Kd.C_drewN ?_ _) | (with_reducible refine Kd.C_drew ?_))); (case side4 => exact HC2.out); (case side5 => repeat (first | exact (Kd.C_below HR1.out HB.out) | (with_reducible refine Kd.C_alloc ?_ _) | (with_reducible refine Kd.C_drewN ?_ _) | (with_reducible refine Kd.C_drew ?_))); (case side6 => exact HC1.out); rintro e w48 ⟨v116, rfl, ho0, hb⟩; have n0_ := Aside0.mk (Kd.R_below (by (with_reducible repeat (first | apply Kd.R_alloc | apply Kd.R_drewN | apply Kd.R_drew)); exact HO_7.out) hb); have n1_ := Aside0.mk (Kd.R_below (by (with_reducible repeat (first | apply Kd.R_alloc | apply Kd.R_drewN | apply Kd.R_drew)); exact HO_8.out) hb); have n2_ := Aside0.mk (Kd.R_elder' (by (with_reducible repeat (first | apply Kd.R_alloc | apply Kd.R_drewN | apply Kd.R_drew)); exact HO113.out) (Kd.R_base ho0) hb); have n3_ := Aside0.mk (Kd.R_lower (Kd.R_new' ho0 (Kd.R_lt (by (with_reducible repeat (first | apply Kd.R_alloc | apply Kd.R_drewN | apply Kd.R_drew)); exact HO113.out))) (below_size (by repeat (first | (with_reducible first | exact HB.out | apply below_alloc | apply pw_below_drewN | apply below_drew1) | exact HB.out)))); have n4_ := Aside0.mk (below_step (by repeat (first | (with_reducible first | exact HB.out | apply below_alloc | apply pw_below_drewN | apply below_drew1) | exact HB.out)) hb); clear HO_7; clear HO_8; clear HO113; clear HB; have HO_7 := n0_; have HO_8 := n1_; have HO113 := n2_; have HO117 := n3_; have HB := n4_; clear n0_ n1_ n2_ n3_ n4_; (try clear hb); (try clear hb2); (try clear hk); (try clear hi); (try clear ho0); obtain ⟨Ao49, co49, eo49⟩ := Kd.R_slice HO113.out; subst eo49; obtain ⟨Ao50, co50, eo50⟩ := Kd.R_slice HO117.out; subst eo50) | (go_at_call 59; (with_reducible refine (emendationref03_Same.calls k2 _ _ t110 _ _ t114 t118 _ ?side1 ?side2 ?side3 ?side4 A46.out).mono ?_); (case side1 => repeat (first | exact (Kd.R_reads' HO113.out).2.2 | (with_reducible refine Kd.C_alloc ?_ _) | (with_reducible refine Kd.C_drewN ?_ _) | (with_reducible refine Kd.C_drew ?_))); (case side2 => exact (Kd.R_reads' HO113.out).2.1); (case side3 => repeat (first | exact (Kd.R_reads' HO117.out).2.2 | (with_reducible refine Kd.C_alloc ?_ _) | (with_reducible refine Kd.C_drewN ?_ _) | (with_reducible refine Kd.C_drew ?_))); (case side4 => exact (Kd.R_reads' HO117.out).2.1); rintro e w' ⟨rfl, ⟨nd, rfl⟩⟩; (try first | exact ⟨rfl, _, World.drewN_drewN _ _ _⟩ | exact ⟨rfl, _, Eq.trans (World.drewN_drewN _ _ _) (congrArg (World.drewN _) (Nat.add_assoc _ _ _))⟩))); try go_wp2_with (first | (go_at_call 53; (with_reducible refine (weave_Merge.calls k2 _ _ l0 _ _ l1 _ _ l2 t110 t111 _ ?side1 ?side2 ?side3 ?side4 ?side5 ?side6 A43.out).mono ?_); (case side1 => repeat (first | exact (Kd.C_below HR0.out HB.out) | (with_reducible refine Kd.C_alloc ?_ _) | (with_reducible refine Kd.C_drewN ?_ _) | (with_reducible refine Kd.C_drew ?_))); (case side2 => exact HC0.out); (case side3 => repeat (first | exact (Kd.C_below HR1.out HB.out) | (with_reducible refine Kd.C_alloc ?_ _) | (with_reducible refine Kd.C_drewN ?_ _) | (with_reducible refine Kd.C_drew ?_))); (case side4 => exact HC1.out); (case side5 => repeat (first | exact (Kd.C_below HR2.out HB.out) | (with_reducible refine Kd.C_alloc ?_ _) | (with_reducible refine Kd.C_drewN ?_ _) | (with_reducible refine Kd.C_drew ?_))); (case side6 => exact HC2.out); rintro e w47 ⟨v112, rfl, ho0, hb⟩; have n0_ := Aside0.mk (Kd.R_below (by (with_reducible repeat (first | apply Kd.R_alloc | apply Kd.R_drewN | apply Kd.R_drew)); exact HO_7.out) hb); have n1_ := Aside0.mk (Kd.R_below (by (with_reducible repeat (first | apply Kd.R_alloc | apply Kd.R_drewN | apply Kd.R_drew)); exact HO_8.out) hb); have n2_ := Aside0.mk (Kd.R_lower ho0 (below_size (by repeat (first | (with_reducible first | exact HB.out | apply below_alloc | apply pw_below_drewN | apply below_drew1) | exact HB.out)))); have n3_ := Aside0.mk (below_step (by repeat (first | (with_reducible first | exact HB.out | apply below_alloc | apply pw_below_drewN | apply below_drew1) | exact HB.out)) hb); clear HO_7; clear HO_8; clear HB; have HO_7 := n0_; have HO_8 := n1_; have HO113 := n2_; have HB := n3_; clear n0_ n1_ n2_ n3_; (try clear hb); (try clear hb2); (try clear hk); (try clear hi); (try clear ho0)) | (go_at_call 53; (with_reducible refine (weave_Merge.calls k2 _ _ l0 _ _ l2 _ _ l1 t114 t115 _ ?side1 ?side2 ?side3 ?side4 ?side5 ?side6 A44.out).mono ?_); (case side1 => repeat (first | exact (Kd.C_below HR0.out HB.out) | (with_reducible refine Kd.C_alloc ?_ _) | (with_reducible refine Kd.C_drewN ?_ _) | (with_reducible refine Kd.C_drew ?_))); (case side2 => exact HC0.out); (case side3 => repeat (first | exact (Kd.C_below HR2.out HB.out) | (with_reducible refine Kd.C_alloc ?_ _) | (with_reducible refine Kd.C_drewN ?_ _) | (with_reducible refine Kd.C_drew ?_))); (case side4 => exact HC2.out); (case side5 => repeat (first | exact (Kd.C_below HR1.out HB.out) | (with_reducible refine Kd.C_alloc ?_ _) | (with_reducible refine Kd.C_drewN ?_ _) | (with_reducible refine Kd.C_drew ?_))); (case side6 => exact HC1.out); rintro e w48 ⟨v116, rfl, ho0, hb⟩; have n0_ := Aside0.mk (Kd.R_below (by (with_reducible repeat (first | apply Kd.R_alloc | apply Kd.R_drewN | apply Kd.R_drew)); exact HO_7.out) hb); have n1_ := Aside0.mk (Kd.R_below (by (with_reducible repeat (first | apply Kd.R_alloc | apply Kd.R_drewN | apply Kd.R_drew)); exact HO_8.out) hb); have n2_ := Aside0.mk (Kd.R_elder' (by (with_reducible repeat (first | apply Kd.R_alloc | apply Kd.R_drewN | apply Kd.R_drew)); exact HO113.out) (Kd.R_base ho0) hb); have n3_ := Aside0.mk (Kd.R_lower (Kd.R_new' ho0 (Kd.R_lt (by (with_reducible repeat (first | apply Kd.R_alloc | apply Kd.R_drewN | apply Kd.R_drew)); exact HO113.out))) (below_size (by repeat (first | (with_reducible first | exact HB.out | apply below_alloc | apply pw_below_drewN | apply below_drew1) | exact HB.out)))); have n4_ := Aside0.mk (below_step (by repeat (first | (with_reducible first | exact HB.out | apply below_alloc | apply pw_below_drewN | apply below_drew1) | exact HB.out)) hb); clear HO_7; clear HO_8; clear HO113; clear HB; have HO_7 := n0_; have HO_8 := n1_; have HO113 := n2_; have HO117 := n3_; have HB := n4_; clear n0_ n1_ n2_ n3_ n4_; (try clear hb); (try clear hb2); (try clear hk); (try clear hi); (try clear ho0); obtain ⟨Ao49, co49, eo49⟩ := Kd.R_slice HO113.out; subst eo49; obtain ⟨Ao50, co50, eo50⟩ := Kd.R_slice HO117.out; subst eo50) | (go_at_call 59; (with_reducible refine (emendationref03_Same.calls k2 _ _ t110 _ _ t114 t118 _ ?side1 ?side2 ?side3 ?side4 A46.out).mono ?_); (case side1 => repeat (first | exact (Kd.R_reads' HO113.out).2.2 | (with_reducible refine Kd.C_alloc ?_ _) | (with_reducible refine Kd.C_drewN ?_ _) | (with_reducible refine Kd.C_drew ?_))); (case side2 => exact (Kd.R_reads' HO113.out).2.1); (case side3 => repeat (first | exact (Kd.R_reads' HO117.out).2.2 | (with_reducible refine Kd.C_alloc ?_ _) | (with_reducible refine Kd.C_drewN ?_ _) | (with_reducible refine Kd.C_drew ?_))); (case side4 => exact (Kd.R_reads' HO117.out).2.1); rintro e w' ⟨rfl, ⟨nd, rfl⟩⟩; (try first | exact ⟨rfl, _, World.drewN_drewN _ _ _⟩ | exact ⟨rfl, _, Eq.trans (World.drewN_drewN _ _ _) (congrArg (World.drewN _) (Nat.add_assoc _ _ _))⟩))))
         go_ret
         exact ⟨by first | rfl | (simp [errW_none, errW_some] <;> rfl) | (simp [*, errW_none, errW_some] <;> rfl), by repeat (first | (with_reducible first | exact HB.out | apply below_alloc | apply pw_below_drewN | apply below_drew1) | exact HB.out)⟩
        ·
         rw [if_neg c45] at H
         have c45b0 : (t111 == t115) = false := by simpa using c45
         (try (have c45b1 : decide (t111 = t115) = false := by simpa using c45))
         (try (have c45b2 : (t111 == t115) = false := by simpa using c45))
         (try (have c45b3 : ¬ (t111 = t115) := by simpa using c45))
         clear c45
         obtain rfl := Option.some.inj H
         go_wp2_with (first | (go_at_call 53; (with_reducible refine (weave_Merge.calls k2 _ _ l0 _ _ l1 _ _ l2 t110 t111 _ ?side1 ?side2 ?side3 ?side4 ?side5 ?side6 A43.out).mono ?_); (case side1 => repeat (first | exact (Kd.C_below HR0.out HB.out) | (with_reducible refine Kd.C_alloc ?_ _) | (with_reducible refine Kd.C_drewN ?_ _) | (with_reducible refine Kd.C_drew ?_))); (case side2 => exact HC0.out); (case side3 => repeat (first | exact (Kd.C_below HR1.out HB.out) | (with_reducible refine Kd.C_alloc ?_ _) | (with_reducible refine Kd.C_drewN ?_ _) | (with_reducible refine Kd.C_drew ?_))); (case side4 => exact HC1.out); (case side5 => repeat (first | exact (Kd.C_below HR2.out HB.out) | (with_reducible refine Kd.C_alloc ?_ _) | (with_reducible refine Kd.C_drewN ?_ _) | (with_reducible refine Kd.C_drew ?_))); (case side6 => exact HC2.out); rintro e w51 ⟨v112, rfl, ho0, hb⟩; have n0_ := Aside0.mk (Kd.R_below (by (with_reducible repeat (first | apply Kd.R_alloc | apply Kd.R_drewN | apply Kd.R_drew)); exact HO_7.out) hb); have n1_ := Aside0.mk (Kd.R_below (by (with_reducible repeat (first | apply Kd.R_alloc | apply Kd.R_drewN | apply Kd.R_drew)); exact HO_8.out) hb); have n2_ := Aside0.mk (Kd.R_lower ho0 (below_size (by repeat (first | (with_reducible first | exact HB.out | apply below_alloc | apply pw_below_drewN | apply below_drew1) | exact HB.out)))); have n3_ := Aside0.mk (below_step (by repeat (first | (with_reducible first | exact HB.out | apply below_alloc | apply pw_below_drewN | apply below_drew1) | exact HB.out)) hb); clear HO_7; clear HO_8; clear HB; have HO_7 := n0_; have HO_8 := n1_; have HO113 := n2_; have HB := n3_; clear n0_ n1_ n2_ n3_; (try clear hb); (try clear hb2); (try clear hk); (try clear hi); (try clear ho0)) | (go_at_call 53; (with_reducible refine (weave_Merge.calls k2 _ _ l0 _ _ l2 _ _ l1 t114 t115 _ ?side1 ?side2 ?side3 ?side4 ?side5 ?side6 A44.out).mono ?_); (case side1 => repeat (first | exact (Kd.C_below HR0.out HB.out) | (with_reducible refine Kd.C_alloc ?_ _) | (with_reducible refine Kd.C_drewN ?_ _) | (with_reducible refine Kd.C_drew ?_))); (case side2 => exact HC0.out); (case side3 => repeat (first | exact (Kd.C_below HR2.out HB.out) | (with_reducible refine Kd.C_alloc ?_ _) | (with_reducible refine Kd.C_drewN ?_ _) | (with_reducible refine Kd.C_drew ?_))); (case side4 => exact HC2.out); (case side5 => repeat (first | exact (Kd.C_below HR1.out HB.out) | (with_reducible refine Kd.C_alloc ?_ _) | (with_reducible refine Kd.C_drewN ?_ _) | (with_reducible refine Kd.C_drew ?_))); (case side6 => exact HC1.out); rintro e w52 ⟨v116, rfl, ho0, hb⟩; have n0_ := Aside0.mk (Kd.R_below (by (with_reducible repeat (first | apply Kd.R_alloc | apply Kd.R_drewN | apply Kd.R_drew)); exact HO_7.out) hb); have n1_ := Aside0.mk (Kd.R_below (by (with_reducible repeat (first | apply Kd.R_alloc | apply Kd.R_drewN | apply Kd.R_drew)); exact HO_8.out) hb); have n2_ := Aside0.mk (Kd.R_elder' (by (with_reducible repeat (first | apply Kd.R_alloc | apply Kd.R_drewN | apply Kd.R_drew)); exact HO113.out) (Kd.R_base ho0) hb); have n3_ := Aside0.mk (Kd.R_lower (Kd.R_new' ho0 (Kd.R_lt (by (with_reducible repeat (first | apply Kd.R_alloc | apply Kd.R_drewN | apply Kd.R_drew)); exact HO113.out))) (below_size (by repeat (first | (with_reducible first | exact HB.out | apply below_alloc | apply pw_below_drewN | apply below_drew1) | exact HB.out)))); have n4_ := Aside0.mk (below_step (by repeat (first | (with_reducible first | exact HB.out | apply below_alloc | apply pw_below_drewN | apply below_drew1) | exact HB.out)) hb); clear HO_7; clear HO_8; clear HO113; clear HB; have HO_7 := n0_; have HO_8 := n1_; have HO113 := n2_; have HO117 := n3_; have HB := n4_; clear n0_ n1_ n2_ n3_ n4_; (try clear hb); (try clear hb2); (try clear hk); (try clear hi); (try clear ho0)))
         repeat (go_quiet (first | (go_at_call 53; (with_reducible refine (weave_Merge.calls k2 _ _ l0 _ _ l1 _ _ l2 t110 t111 _ ?side1 ?side2 ?side3 ?side4 ?side5 ?side6 A43.out).mono ?_); (case side1 => repeat (first | exact (Kd.C_below HR0.out HB.out) | (with_reducible refine Kd.C_alloc ?_ _) | (with_reducible refine Kd.C_drewN ?_ _) | (with_reducible refine Kd.C_drew ?_))); (case side2 => exact HC0.out); (case side3 => repeat (first | exact (Kd.C_below HR1.out HB.out) | (with_reducible refine Kd.C_alloc ?_ _) | (with_reducible refine Kd.C_drewN ?_ _) | (with_reducible refine Kd.C_drew ?_))); (case side4 => exact HC1.out); (case side5 => repeat (first | exact (Kd.C_below HR2.out HB.out) | (with_reducible refine Kd.C_alloc ?_ _) | (with_reducible refine Kd.C_drewN ?_ _) | (with_reducible refine Kd.C_drew ?_))); (case side6 => exact HC2.out); rintro e w51 ⟨v112, rfl, ho0, hb⟩; have n0_ := Aside0.mk (Kd.R_below (by (with_reducible repeat (first | apply Kd.R_alloc | apply Kd.R_drewN | apply Kd.R_drew)); exact HO_7.out) hb); have n1_ := Aside0.mk (Kd.R_below (by (with_reducible repeat (first | apply Kd.R_alloc | apply Kd.R_drewN | apply Kd.R_drew)); exact HO_8.out) hb); have n2_ := Aside0.mk (Kd.R_lower ho0 (below_size (by repeat (first | (with_reducible first | exact HB.out | apply below_alloc | apply pw_below_drewN | apply below_drew1) | exact HB.out)))); have n3_ := Aside0.mk (below_step (by repeat (first | (with_reducible first | exact HB.out | apply below_alloc | apply pw_below_drewN | apply below_drew1) | exact HB.out)) hb); clear HO_7; clear HO_8; clear HB; have HO_7 := n0_; have HO_8 := n1_; have HO113 := n2_; have HB := n3_; clear n0_ n1_ n2_ n3_; (try clear hb); (try clear hb2); (try clear hk); (try clear hi); (try clear ho0)) | (go_at_call 53; (with_reducible refine (weave_Merge.calls k2 _ _ l0 _ _ l2 _ _ l1 t114 t115 _ ?side1 ?side2 ?side3 ?side4 ?side5 ?side6 A44.out).mono ?_); (case side1 => repeat (first | exact (Kd.C_below HR0.out HB.out) | (with_reducible refine Kd.C_alloc ?_ _) | (with_reducible refine Kd.C_drewN ?_ _) | (with_reducible refine Kd.C_drew ?_))); (case side2 => exact HC0.out); (case side3 => repeat (first | exact (Kd.C_below HR2.out HB.out) | (with_reducible refine Kd.C_alloc ?_ _) | (with_reducible refine Kd.C_drewN ?_ _) | (with_reducible refine Kd.C_drew ?_))); (case side4 => exact HC2.out); (case side5 => repeat (first | exact (Kd.C_below HR1.out HB.out) | (with_reducible refine Kd.C_alloc ?_ _) | (with_reducible refine Kd.C_drewN ?_ _) | (with_reducible refine Kd.C_drew ?_))); (case side6 => exact HC1.out); rintro e w52 ⟨v116, rfl, ho0, hb⟩; have n0_ := Aside0.mk (Kd.R_below (by (with_reducible repeat (first | apply Kd.R_alloc | apply Kd.R_drewN | apply Kd.R_drew)); exact HO_7.out) hb); have n1_ := Aside0.mk (Kd.R_below (by (with_reducible repeat (first | apply Kd.R_alloc | apply Kd.R_drewN | apply Kd.R_drew)); exact HO_8.out) hb); have n2_ := Aside0.mk (Kd.R_elder' (by (with_reducible repeat (first | apply Kd.R_alloc | apply Kd.R_drewN | apply Kd.R_drew)); exact HO113.out) (Kd.R_base ho0) hb); have n3_ := Aside0.mk (Kd.R_lower (Kd.R_new' ho0 (Kd.R_lt (by (with_reducible repeat (first | apply Kd.R_alloc | apply Kd.R_drewN | apply Kd.R_drew)); exact HO113.out))) (below_size (by repeat (first | (with_reducible first | exact HB.out | apply below_alloc | apply pw_below_drewN | apply below_drew1) | exact HB.out)))); have n4_ := Aside0.mk (below_step (by repeat (first | (with_reducible first | exact HB.out | apply below_alloc | apply pw_below_drewN | apply below_drew1) | exact HB.out)) hb); clear HO_7; clear HO_8; clear HO113; clear HB; have HO_7 := n0_; have HO_8 := n1_; have HO113 := n2_; have HO117 := n3_; have HB := n4_; clear n0_ n1_ n2_ n3_ n4_; (try clear hb); (try clear hb2); (try clear hk); (try clear hi); (try clear ho0))); try go_wp2_with (first | (go_at_call 53; (with_reducible refine (weave_Merge.calls k2 _ _ l0 _ _ l1 _ _ l2 t110 t111 _ ?side1 ?side2 ?side3 ?side4 ?side5 ?side6 A43.out).mono ?_); (case side1 => repeat (first | exact (Kd.C_below HR0.out HB.out) | (with_reducible refine Kd.C_alloc ?_ _) | (with_reducible refine Kd.C_drewN ?_ _) | (with_reducible refine Kd.C_drew ?_))); (case side2 => exact HC0.out); (case side3 => repeat (first | exact (Kd.C_below HR1.out HB.out) | (with_reducible refine Kd.C_alloc ?_ _) | (with_reducible refine Kd.C_drewN ?_ _) | (with_reducible refine Kd.C_drew ?_))); (case side4 => exact HC1.out); (case side5 => repeat (first | exact (Kd.C_below HR2.out HB.out) | (with_reducible refine Kd.C_alloc ?_ _) | (with_reducible refine Kd.C_drewN ?_ _) | (with_reducible refine Kd.C_drew ?_))); (case side6 => exact HC2.out); rintro e w51 ⟨v112, rfl, ho0, hb⟩; have n0_ := Aside0.mk (Kd.R_below (by (with_reducible repeat (first | apply Kd.R_alloc | apply Kd.R_drewN | apply Kd.R_drew)); exact HO_7.out) hb); have n1_ := Aside0.mk (Kd.R_below (by (with_reducible repeat (first | apply Kd.R_alloc | apply Kd.R_drewN | apply Kd.R_drew)); exact HO_8.out) hb); have n2_ := Aside0.mk (Kd.R_lower ho0 (below_size (by repeat (first | (with_reducible first | exact HB.out | apply below_alloc | apply pw_below_drewN | apply below_drew1) | exact HB.out)))); have n3_ := Aside0.mk (below_step (by repeat (first | (with_reducible first | exact HB.out | apply below_alloc | apply pw_below_drewN | apply below_drew1) | exact HB.out)) hb); clear HO_7; clear HO_8; clear HB; have HO_7 := n0_; have HO_8 := n1_; have HO113 := n2_; have HB := n3_; clear n0_ n1_ n2_ n3_; (try clear hb); (try clear hb2); (try clear hk); (try clear hi); (try clear ho0)) | (go_at_call 53; (with_reducible refine (weave_Merge.calls k2 _ _ l0 _ _ l2 _ _ l1 t114 t115 _ ?side1 ?side2 ?side3 ?side4 ?side5 ?side6 A44.out).mono ?_); (case side1 => repeat (first | exact (Kd.C_below HR0.out HB.out) | (with_reducible refine Kd.C_alloc ?_ _) | (with_reducible refine Kd.C_drewN ?_ _) | (with_reducible refine Kd.C_drew ?_))); (case side2 => exact HC0.out); (case side3 => repeat (first | exact (Kd.C_below HR2.out HB.out) | (with_reducible refine Kd.C_alloc ?_ _) | (with_reducible refine Kd.C_drewN ?_ _) | (with_reducible refine Kd.C_drew ?_))); (case side4 => exact HC2.out); (case side5 => repeat (first | exact (Kd.C_below HR1.out HB.out) | (with_reducible refine Kd.C_alloc ?_ _) | (with_reducible refine Kd.C_drewN ?_ _) | (with_reducible refine Kd.C_drew ?_))); (case side6 => exact HC1.out); rintro e w52 ⟨v116, rfl, ho0, hb⟩; have n0_ := Aside0.mk (Kd.R_below (by (with_reducible repeat (first | apply Kd.R_alloc | apply Kd.R_drewN | apply Kd.R_drew)); exact HO_7.out) hb); have n1_ := Aside0.mk (Kd.R_below (by (with_reducible repeat (first | apply Kd.R_alloc | apply Kd.R_drewN | apply Kd.R_drew)); exact HO_8.out) hb); have n2_ := Aside0.mk (Kd.R_elder' (by (with_reducible repeat (first | apply Kd.R_alloc | apply Kd.R_drewN | apply Kd.R_drew)); exact HO113.out) (Kd.R_base ho0) hb); have n3_ := Aside0.mk (Kd.R_lower (Kd.R_new' ho0 (Kd.R_lt (by (with_reducible repeat (first | apply Kd.R_alloc | apply Kd.R_drewN | apply Kd.R_drew)); exact HO113.out))) (below_size (by repeat (first | (with_reducible first | exact HB.out | apply below_alloc | apply pw_below_drewN | apply below_drew1) | exact HB.out)))); have n4_ := Aside0.mk (below_step (by repeat (first | (with_reducible first | exact HB.out | apply below_alloc | apply pw_below_drewN | apply below_drew1) | exact HB.out)) hb); clear HO_7; clear HO_8; clear HO113; clear HB; have HO_7 := n0_; have HO_8 := n1_; have HO113 := n2_; have HO117 := n3_; have HB := n4_; clear n0_ n1_ n2_ n3_ n4_; (try clear hb); (try clear hb2); (try clear hk); (try clear hi); (try clear ho0))))
         go_ret
         exact ⟨by first | rfl | (simp [errW_none, errW_some] <;> rfl) | (simp [*, errW_none, errW_some] <;> rfl), by repeat (first | (with_reducible first | exact HB.out | apply below_alloc | apply pw_below_drewN | apply below_drew1) | exact HB.out)⟩
    ·
     rw [if_neg c15] at H
     have c15b0 : ((t104.length : Int) == (t107.length : Int)) = false := beq_eq_false_iff_ne.mpr c15
     have c15b1 : ((t104.length : Int) != (t107.length : Int)) = true := bne_iff_ne.mpr c15
     have c15b2 : (t104.length == t107.length) = false := by first | simpa using c15 | (simp at c15 ⊢; omega)
     obtain rfl := Option.some.inj H
     go_wp2_with (first | (go_at_call 51; (with_reducible refine (weave_Chunks.calls kj3 _ _ l0 _ _ l1 _ _ l2 t104 _ ?side1 ?side2 ?side3 ?side4 ?side5 ?side6 A13.out).mono ?_); (case side1 => repeat (first | exact (Kd.C_below HR0.out HB.out) | (with_reducible refine Kd.C_alloc ?_ _) | (with_reducible refine Kd.C_drewN ?_ _) | (with_reducible refine Kd.C_drew ?_))); (case side2 => exact HC0.out); (case side3 => repeat (first | exact (Kd.C_below HR1.out HB.out) | (with_reducible refine Kd.C_alloc ?_ _) | (with_reducible refine Kd.C_drewN ?_ _) | (with_reducible refine Kd.C_drew ?_))); (case side4 => exact HC1.out); (case side5 => repeat (first | exact (Kd.C_below HR2.out HB.out) | (with_reducible refine Kd.C_alloc ?_ _) | (with_reducible refine Kd.C_drewN ?_ _) | (with_reducible refine Kd.C_drew ?_))); (case side6 => exact HC2.out); rintro e w53 ⟨v105, rfl, ho0, hb⟩; have n0_ := Aside0.mk (Kd.R_lower ho0 (below_size (by repeat (first | (with_reducible first | exact HB.out | apply below_alloc | apply pw_below_drewN | apply below_drew1) | exact HB.out)))); have n1_ := Aside0.mk (below_step (by repeat (first | (with_reducible first | exact HB.out | apply below_alloc | apply pw_below_drewN | apply below_drew1) | exact HB.out)) hb); clear HB; have HO106 := n0_; have HB := n1_; clear n0_ n1_; (try clear hb); (try clear hb2); (try clear hk); (try clear hi); (try clear ho0)) | (go_at_call 51; (with_reducible refine (weave_Chunks.calls kj3 _ _ l0 _ _ l2 _ _ l1 t107 _ ?side1 ?side2 ?side3 ?side4 ?side5 ?side6 A14.out).mono ?_); (case side1 => repeat (first | exact (Kd.C_below HR0.out HB.out) | (with_reducible refine Kd.C_alloc ?_ _) | (with_reducible refine Kd.C_drewN ?_ _) | (with_reducible refine Kd.C_drew ?_))); (case side2 => exact HC0.out); (case side3 => repeat (first | exact (Kd.C_below HR2.out HB.out) | (with_reducible refine Kd.C_alloc ?_ _) | (with_reducible refine Kd.C_drewN ?_ _) | (with_reducible refine Kd.C_drew ?_))); (case side4 => exact HC2.out); (case side5 => repeat (first | exact (Kd.C_below HR1.out HB.out) | (with_reducible refine Kd.C_alloc ?_ _) | (with_reducible refine Kd.C_drewN ?_ _) | (with_reducible refine Kd.C_drew ?_))); (case side6 => exact HC1.out); rintro e w54 ⟨v108, rfl, ho0, hb⟩; have n0_ := Aside0.mk (Kd.R_elder' (by (with_reducible repeat (first | apply Kd.R_alloc | apply Kd.R_drewN | apply Kd.R_drew)); exact HO106.out) (Kd.R_base ho0) hb); have n1_ := Aside0.mk (Kd.R_lower (Kd.R_new' ho0 (Kd.R_lt (by (with_reducible repeat (first | apply Kd.R_alloc | apply Kd.R_drewN | apply Kd.R_drew)); exact HO106.out))) (below_size (by repeat (first | (with_reducible first | exact HB.out | apply below_alloc | apply pw_below_drewN | apply below_drew1) | exact HB.out)))); have n2_ := Aside0.mk (below_step (by repeat (first | (with_reducible first | exact HB.out | apply below_alloc | apply pw_below_drewN | apply below_drew1) | exact HB.out)) hb); clear HO106; clear HB; have HO106 := n0_; have HO109 := n1_; have HB := n2_; clear n0_ n1_ n2_; (try clear hb); (try clear hb2); (try clear hk); (try clear hi); (try clear ho0); obtain ⟨Ao55, co55, eo55⟩ := Kd.R_slice HO106.out; subst eo55; obtain ⟨Ao56, co56, eo56⟩ := Kd.R_slice HO109.out; subst eo56))
     repeat (go_quiet (first | (go_at_call 51; (with_reducible refine (weave_Chunks.calls kj3 _ _ l0 _ _ l1 _ _ l2 t104 _ ?side1 ?side2 ?side3 ?side4 ?side5 ?side6 A13.out).mono ?_); (case side1 => repeat (first | exact (Kd.C_below HR0.out HB.out) | (with_reducible refine Kd.C_alloc ?_ _) | (with_reducible refine Kd.C_drewN ?_ _) | (with_reducible refine Kd.C_drew ?_))); (case side2 => exact HC0.out); (case side3 => repeat (first | exact (Kd.C_below HR1.out HB.out) | (with_reducible refine Kd.C_alloc ?_ _) | (with_reducible refine Kd.C_drewN ?_ _) | (with_reducible refine Kd.C_drew ?_))); (case side4 => exact HC1.out); (case side5 => repeat (first | exact (Kd.C_below HR2.out HB.out) | (with_reducible refine Kd.C_alloc ?_ _) | (with_reducible refine Kd.C_drewN ?_ _) | (with_reducible refine Kd.C_drew ?_))); (case side6 => exact HC2.out); rintro e w53 ⟨v105, rfl, ho0, hb⟩; have n0_ := Aside0.mk (Kd.R_lower ho0 (below_size (by repeat (first | (with_reducible first | exact HB.out | apply below_alloc | apply pw_below_drewN | apply below_drew1) | exact HB.out)))); have n1_ := Aside0.mk (below_step (by repeat (first | (with_reducible first | exact HB.out | apply below_alloc | apply pw_below_drewN | apply below_drew1) | exact HB.out)) hb); clear HB; have HO106 := n0_; have HB := n1_; clear n0_ n1_; (try clear hb); (try clear hb2); (try clear hk); (try clear hi); (try clear ho0)) | (go_at_call 51; (with_reducible refine (weave_Chunks.calls kj3 _ _ l0 _ _ l2 _ _ l1 t107 _ ?side1 ?side2 ?side3 ?side4 ?side5 ?side6 A14.out).mono ?_); (case side1 => repeat (first | exact (Kd.C_below HR0.out HB.out) | (with_reducible refine Kd.C_alloc ?_ _) | (with_reducible refine Kd.C_drewN ?_ _) | (with_reducible refine Kd.C_drew ?_))); (case side2 => exact HC0.out); (case side3 => repeat (first | exact (Kd.C_below HR2.out HB.out) | (with_reducible refine Kd.C_alloc ?_ _) | (with_reducible refine Kd.C_drewN ?_ _) | (with_reducible refine Kd.C_drew ?_))); (case side4 => exact HC2.out); (case side5 => repeat (first | exact (Kd.C_below HR1.out HB.out) | (with_reducible refine Kd.C_alloc ?_ _) | (with_reducible refine Kd.C_drewN ?_ _) | (with_reducible refine Kd.C_drew ?_))); (case side6 => exact HC1.out); rintro e w54 ⟨v108, rfl, ho0, hb⟩; have n0_ := Aside0.mk (Kd.R_elder' (by (with_reducible repeat (first | apply Kd.R_alloc | apply Kd.R_drewN | apply Kd.R_drew)); exact HO106.out) (Kd.R_base ho0) hb); have n1_ := Aside0.mk (Kd.R_lower (Kd.R_new' ho0 (Kd.R_lt (by (with_reducible repeat (first | apply Kd.R_alloc | apply Kd.R_drewN | apply Kd.R_drew)); exact HO106.out))) (below_size (by repeat (first | (with_reducible first | exact HB.out | apply below_alloc | apply pw_below_drewN | apply below_drew1) | exact HB.out)))); have n2_ := Aside0.mk (below_step (by repeat (first | (with_reducible first | exact HB.out | apply below_alloc | apply pw_below_drewN | apply below_drew1) | exact HB.out)) hb); clear HO106; clear HB; have HO106 := n0_; have HO109 := n1_; have HB := n2_; clear n0_ n1_ n2_; (try clear hb); (try clear hb2); (try clear hk); (try clear hi); (try clear ho0); obtain ⟨Ao55, co55, eo55⟩ := Kd.R_slice HO106.out; subst eo55; obtain ⟨Ao56, co56, eo56⟩ := Kd.R_slice HO109.out; subst eo56)); try go_wp2_with (first | (go_at_call 51; (with_reducible refine (weave_Chunks.calls kj3 _ _ l0 _ _ l1 _ _ l2 t104 _ ?side1 ?side2 ?side3 ?side4 ?side5 ?side6 A13.out).mono ?_); (case side1 => repeat (first | exact (Kd.C_below HR0.out HB.out) | (with_reducible refine Kd.C_alloc ?_ _) | (with_reducible refine Kd.C_drewN ?_ _) | (with_reducible refine Kd.C_drew ?_))); (case side2 => exact HC0.out); (case side3 => repeat (first | exact (Kd.C_below HR1.out HB.out) | (with_reducible refine Kd.C_alloc ?_ _) | (with_reducible refine Kd.C_drewN ?_ _) | (with_reducible refine Kd.C_drew ?_))); (case side4 => exact HC1.out); (case side5 => repeat (first | exact (Kd.C_below HR2.out HB.out) | (with_reducible refine Kd.C_alloc ?_ _) | (with_reducible refine Kd.C_drewN ?_ _) | (with_reducible refine Kd.C_drew ?_))); (case side6 => exact HC2.out); rintro e w53 ⟨v105, rfl, ho0, hb⟩; have n0_ := Aside0.mk (Kd.R_lower ho0 (below_size (by repeat (first | (with_reducible first | exact HB.out | apply below_alloc | apply pw_below_drewN | apply below_drew1) | exact HB.out)))); have n1_ := Aside0.mk (below_step (by repeat (first | (with_reducible first | exact HB.out | apply below_alloc | apply pw_below_drewN | apply below_drew1) | exact HB.out)) hb); clear HB; have HO106 := n0_; have HB := n1_; clear n0_ n1_; (try clear hb); (try clear hb2); (try clear hk); (try clear hi); (try clear ho0)) | (go_at_call 51; (with_reducible refine (weave_Chunks.calls kj3 _ _ l0 _ _ l2 _ _ l1 t107 _ ?side1 ?side2 ?side3 ?side4 ?side5 ?side6 A14.out).mono ?_); (case side1 => repeat (first | exact (Kd.C_below HR0.out HB.out) | (with_reducible refine Kd.C_alloc ?_ _) | (with_reducible refine Kd.C_drewN ?_ _) | (with_reducible refine Kd.C_drew ?_))); (case side2 => exact HC0.out); (case side3 => repeat (first | exact (Kd.C_below HR2.out HB.out) | (with_reducible refine Kd.C_alloc ?_ _) | (with_reducible refine Kd.C_drewN ?_ _) | (with_reducible refine Kd.C_drew ?_))); (case side4 => exact HC2.out); (case side5 => repeat (first | exact (Kd.C_below HR1.out HB.out) | (with_reducible refine Kd.C_alloc ?_ _) | (with_reducible refine Kd.C_drewN ?_ _) | (with_reducible refine Kd.C_drew ?_))); (case side6 => exact HC1.out); rintro e w54 ⟨v108, rfl, ho0, hb⟩; have n0_ := Aside0.mk (Kd.R_elder' (by (with_reducible repeat (first | apply Kd.R_alloc | apply Kd.R_drewN | apply Kd.R_drew)); exact HO106.out) (Kd.R_base ho0) hb); have n1_ := Aside0.mk (Kd.R_lower (Kd.R_new' ho0 (Kd.R_lt (by (with_reducible repeat (first | apply Kd.R_alloc | apply Kd.R_drewN | apply Kd.R_drew)); exact HO106.out))) (below_size (by repeat (first | (with_reducible first | exact HB.out | apply below_alloc | apply pw_below_drewN | apply below_drew1) | exact HB.out)))); have n2_ := Aside0.mk (below_step (by repeat (first | (with_reducible first | exact HB.out | apply below_alloc | apply pw_below_drewN | apply below_drew1) | exact HB.out)) hb); clear HO106; clear HB; have HO106 := n0_; have HO109 := n1_; have HB := n2_; clear n0_ n1_ n2_; (try clear hb); (try clear hb2); (try clear hk); (try clear hi); (try clear ho0); obtain ⟨Ao55, co55, eo55⟩ := Kd.R_slice HO106.out; subst eo55; obtain ⟨Ao56, co56, eo56⟩ := Kd.R_slice HO109.out; subst eo56)))
     go_ret
     exact ⟨by first | rfl | (simp [errW_none, errW_some] <;> rfl) | (simp [*, errW_none, errW_some] <;> rfl), by repeat (first | (with_reducible first | exact HB.out | apply below_alloc | apply pw_below_drewN | apply below_drew1) | exact HB.out)⟩

/-- THE ONE PURE STATEMENT of emendationlaw05_WeaveTurns: yours. -/
def emendationlaw05_WeaveTurns.Pure : Prop := ∀ (l0 : List Int) (l1 : List Int) (l2 : List Int), l0.length ≤ maxLen → l0.length * 8 ≤ 140737488351232 → (∀ x ∈ l0, (Lit.int .i64 x).wf = true) → l1.length ≤ maxLen → l1.length * 8 ≤ 140737488351232 → (∀ x ∈ l1, (Lit.int .i64 x).wf = true) → l2.length ≤ maxLen → l2.length * 8 ≤ 140737488351232 → (∀ x ∈ l2, (Lit.int .i64 x).wf = true) → ∃ k, emendationlaw05_WeaveTurns.f k l0 l1 l2 = some true
theorem emendationlaw05_WeaveTurns.walk (P : emendationlaw05_WeaveTurns.Pure) (a0 : Option Addr) (len0 cap0 : Nat) (z0 : List Int) (a1 : Option Addr) (len1 cap1 : Nat) (z1 : List Int) (a2 : Option Addr) (len2 cap2 : Nat) (z2 : List Int) (w : World) (w0 : (a0 = none ∧ len0 = 0 ∧ cap0 = 0 ∧ z0 = []) ∨ ∃ x, a0 = some x ∧ len0 ≤ cap0 ∧ cap0 ≤ maxLen ∧ z0.length = cap0 ∧ (∀ i, i < z0.length → w.cell? (x.add i) = some (.int .i64 (z0.getD i 0))) ∧ ∀ n ∈ z0, (Lit.int .i64 n).wf = true) (y0 : len0 * 8 ≤ 140737488351232) (w1 : (a1 = none ∧ len1 = 0 ∧ cap1 = 0 ∧ z1 = []) ∨ ∃ x, a1 = some x ∧ len1 ≤ cap1 ∧ cap1 ≤ maxLen ∧ z1.length = cap1 ∧ (∀ i, i < z1.length → w.cell? (x.add i) = some (.int .i64 (z1.getD i 0))) ∧ ∀ n ∈ z1, (Lit.int .i64 n).wf = true) (y1 : len1 * 8 ≤ 140737488351232) (w2 : (a2 = none ∧ len2 = 0 ∧ cap2 = 0 ∧ z2 = []) ∨ ∃ x, a2 = some x ∧ len2 ≤ cap2 ∧ cap2 ≤ maxLen ∧ z2.length = cap2 ∧ (∀ i, i < z2.length → w.cell? (x.add i) = some (.int .i64 (z2.getD i 0))) ∧ ∀ n ∈ z2, (Lit.int .i64 n).wf = true) (y2 : len2 * 8 ≤ 140737488351232) :
    Calls Try.prog 18 #[.slice a0 len0 cap0, .slice a1 len1 cap1, .slice a2 len2 cap2] w fun e w' => e = .returned (.bool true) ∧ Below w.heap.size w w' := by
  obtain ⟨l0, rfl, hr0, hm0, hw0, hc0⟩ := ReadsInt.ofRowC w0
  obtain ⟨l1, rfl, hr1, hm1, hw1, hc1⟩ := ReadsInt.ofRowC w1
  obtain ⟨l2, rfl, hr2, hm2, hw2, hc2⟩ := ReadsInt.ofRowC w2
  obtain ⟨k, h⟩ := P l0 l1 l2 hm0 y0 hw0 hm1 y1 hw1 hm2 y2 hw2
  refine (emendationlaw05_WeaveTurns.calls k _ _ l0 _ _ l1 _ _ l2 true w (Kd.C_of_reads (d := (0 : Int)) (h1 := fun _ => rfl) hr0) hc0 (Kd.C_of_reads (d := (0 : Int)) (h1 := fun _ => rfl) hr1) hc1 (Kd.C_of_reads (d := (0 : Int)) (h1 := fun _ => rfl) hr2) hc2 h).mono ?_
  rintro e w' ⟨rfl, hd⟩
  exact ⟨rfl, hd⟩

end Go.Proofs.Ytlkgdfeeepiidaa.All
