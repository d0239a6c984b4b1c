-- Made by a program of this session (wip/mk.py) over the kit's printing program; Lean checks it.
import Derived.Test.YtlkgdfeeepiidaaF0
import Derived.Test.YtlkgdfeeepiidaaF60
import Derived.Test.YtlkgdfeeepiidaaF62
import Derived.Test.YtlkgdfeeepiidaaXWv
namespace Go.Proofs.Ytlkgdfeeepiidaa.All
open Go.RowKit Go.Proofs.YtlkgdfeeepiidaaW.PrintWords Go.Proofs.YtlkgdfeeepiidaaW.PrintLast Go.Proofs.YtlkgdfeeepiidaaW.PrintMore
attribute [local go_sem] max2_int min2_int max_two min_two max_three min_three max_four min_four   -- for this text's walks alone
set_option linter.unusedVariables false
set_option linter.unusedSimpArgs false

/-! ### marks_Merge: function 46 -/
mutual
def marks_Merge.l0 : Nat → Int → List ByteArray → List ByteArray → List ByteArray → List ByteArray → Int → List (S75) → Int → Int → ByteArray → ByteArray → ByteArray → Option (List ByteArray × Int)
  | 0, _, _, _, _, _, _, _, _, _, _, _, _ => none
  | k + 1, x0, x2, x3, x4, x13, x14, x34, x35, x36, x102000, x102001, x102002 => if x36 < x35 then (if 0 ≤ x36 then (if x36 < (x34.length : Int) then (if 0 ≤ ((rd_T75 x34 x36).f0.f0) then (if ((rd_T75 x34 x36).f0.f0) ≤ ((rd_T75 x34 x36).f0.f1) then (if ((rd_T75 x34 x36).f0.f1) ≤ (x2.length : Int) then ((some ((x2.take (((rd_T75 x34 x36).f0.f1) : Int).toNat).drop (((rd_T75 x34 x36).f0.f0) : Int).toNat : List ByteArray)).bind fun y116 => (if 0 ≤ ((rd_T75 x34 x36).f1.f0) then (if ((rd_T75 x34 x36).f1.f0) ≤ ((rd_T75 x34 x36).f1.f1) then (if ((rd_T75 x34 x36).f1.f1) ≤ (x3.length : Int) then ((some ((x3.take (((rd_T75 x34 x36).f1.f1) : Int).toNat).drop (((rd_T75 x34 x36).f1.f0) : Int).toNat : List ByteArray)).bind fun y121 => (if 0 ≤ ((rd_T75 x34 x36).f2.f0) then (if ((rd_T75 x34 x36).f2.f0) ≤ ((rd_T75 x34 x36).f2.f1) then (if ((rd_T75 x34 x36).f2.f1) ≤ (x4.length : Int) then ((some ((x4.take (((rd_T75 x34 x36).f2.f1) : Int).toNat).drop (((rd_T75 x34 x36).f2.f0) : Int).toNat : List ByteArray)).bind fun y126 => (if ((rd_T75 x34 x36).f3) = 1 then (marks_Merge.j1 k x0 x2 x3 x4 x13 x14 y116 y121 y126 x34 x35 x36 ((rd_T75 x34 x36).f3) (((rd_T75 x34 x36).f3) == 1) x102000 x102001 x102002) else (marks_Merge.j1 k x0 x2 x3 x4 x13 x14 y116 y121 y126 x34 x35 x36 ((rd_T75 x34 x36).f3) (((rd_T75 x34 x36).f3) == 3) x102000 x102001 x102002))) else (none)) else (none)) else (none))) else (none)) else (none)) else (none))) else (none)) else (none)) else (none)) else (none)) else (none)) else (some (x13, x14))
def marks_Merge.j1 : Nat → Int → List ByteArray → List ByteArray → List ByteArray → List ByteArray → Int → List ByteArray → List ByteArray → List ByteArray → List (S75) → Int → Int → Int → Bool → ByteArray → ByteArray → ByteArray → Option (List ByteArray × Int)
  | 0, _, _, _, _, _, _, _, _, _, _, _, _, _, _, _, _, _ => none
  | k + 1, x0, x2, x3, x4, x13, x14, x17, x18, x19, x34, x35, x36, x65, x69, x102000, x102001, x102002 => if x69 = true then (if x13.length + x19.length < 8796093022208 then (marks_Merge.l0 k x0 x2 x3 x4 (x13 ++ x19) x14 x34 x35 (wrap64 (x36 + 1)) x102000 x102001 x102002) else (none)) else (if x65 = 5 then ((marks_Region.f x0 x102000 x102001 x102002 x18 x17 x19).bind fun t134 => (if x13.length + t134.length < 8796093022208 then (marks_Merge.l0 k x0 x2 x3 x4 (x13 ++ t134) (wrap64 (x14 + 1)) x34 x35 (wrap64 (x36 + 1)) x102000 x102001 x102002) else (none))) else (if x13.length + x18.length < 8796093022208 then (marks_Merge.l0 k x0 x2 x3 x4 (x13 ++ x18) x14 x34 x35 (wrap64 (x36 + 1)) x102000 x102001 x102002) else (none)))
end
def marks_Merge.f (k : Nat) (a0 : Int) (a1_0 : ByteArray) (a1_1 : ByteArray) (a1_2 : ByteArray) (l2 : List ByteArray) (l3 : List ByteArray) (l4 : List ByteArray) : Option (List ByteArray × Int) := (token_Ids.f k (([l2, l3, l4] : List (List ByteArray)))).bind fun t105 => (if 0 < (t105.length : Int) then (if 1 < (t105.length : Int) then (if 2 < (t105.length : Int) then ((weave_Chunks.f k (rd_L3 t105 0) (rd_L3 t105 1) (rd_L3 t105 2)).bind fun t111 => (marks_Merge.l0 k a0 l2 l3 l4 ([] : List ByteArray) 0 t111 (t111.length : Int) 0 a1_0 a1_1 a1_2)) else (none)) else (none)) else (none))
theorem marks_Merge.mono_l : ∀ k, (∀ y0 y1 y2 y3 y4 y5 y6 y7 y8 y9 y10 y11, LeO (marks_Merge.l0 k y0 y1 y2 y3 y4 y5 y6 y7 y8 y9 y10 y11) (marks_Merge.l0 (k + 1) y0 y1 y2 y3 y4 y5 y6 y7 y8 y9 y10 y11)) ∧ (∀ y0 y1 y2 y3 y4 y5 y6 y7 y8 y9 y10 y11 y12 y13 y14 y15 y16, LeO (marks_Merge.j1 k y0 y1 y2 y3 y4 y5 y6 y7 y8 y9 y10 y11 y12 y13 y14 y15 y16) (marks_Merge.j1 (k + 1) y0 y1 y2 y3 y4 y5 y6 y7 y8 y9 y10 y11 y12 y13 y14 y15 y16))
  | 0 => ⟨fun _ _ _ _ _ _ _ _ _ _ _ _ r h => by simp [marks_Merge.l0] at h, fun _ _ _ _ _ _ _ _ _ _ _ _ _ _ _ _ _ r h => by simp [marks_Merge.j1] at h⟩
  | k + 1 => by
    obtain ⟨ih0, ih1⟩ := marks_Merge.mono_l k
    refine ⟨?_, ?_⟩
    · intro y0 y1 y2 y3 y4 y5 y6 y7 y8 y9 y10 y11
      unfold marks_Merge.l0
      repeat' first
      | (with_reducible exact ih0 _ _ _ _ _ _ _ _ _ _ _ _)
      | (with_reducible exact ih1 _ _ _ _ _ _ _ _ _ _ _ _ _ _ _ _ _)
      | (with_reducible exact token_Ids.mono _ _)
      | (with_reducible exact weave_Chunks.mono _ _ _ _)
      | (with_reducible exact LeO.refl _)
      | (with_reducible exact LeO.none _)
      | (with_reducible refine LeO.ite ?_ ?_)
      | (with_reducible refine LeO.bind ?_ (fun _ => ?_))
      | exact ih0 _ _ _ _ _ _ _ _ _ _ _ _
      | exact ih1 _ _ _ _ _ _ _ _ _ _ _ _ _ _ _ _ _
      | exact token_Ids.mono _ _
      | exact weave_Chunks.mono _ _ _ _
      | exact LeO.none _
      | refine LeO.ite ?_ ?_
      | refine LeO.bind ?_ (fun _ => ?_)
    · intro y0 y1 y2 y3 y4 y5 y6 y7 y8 y9 y10 y11 y12 y13 y14 y15 y16
      unfold marks_Merge.j1
      repeat' first
      | (with_reducible exact ih0 _ _ _ _ _ _ _ _ _ _ _ _)
      | (with_reducible exact ih1 _ _ _ _ _ _ _ _ _ _ _ _ _ _ _ _ _)
      | (with_reducible exact token_Ids.mono _ _)
      | (with_reducible exact weave_Chunks.mono _ _ _ _)
      | (with_reducible exact LeO.refl _)
      | (with_reducible exact LeO.none _)
      | (with_reducible refine LeO.ite ?_ ?_)
      | (with_reducible refine LeO.bind ?_ (fun _ => ?_))
      | exact ih0 _ _ _ _ _ _ _ _ _ _ _ _
      | exact ih1 _ _ _ _ _ _ _ _ _ _ _ _ _ _ _ _ _
      | exact token_Ids.mono _ _
      | exact weave_Chunks.mono _ _ _ _
      | exact LeO.none _
      | refine LeO.ite ?_ ?_
      | refine LeO.bind ?_ (fun _ => ?_)
theorem marks_Merge.mono : ∀ a0 a1 a2 a3 a4 a5 a6 k, LeO (marks_Merge.f k a0 a1 a2 a3 a4 a5 a6) (marks_Merge.f (k + 1) a0 a1 a2 a3 a4 a5 a6) := by
  intro a0 a1 a2 a3 a4 a5 a6 k
  obtain ⟨ih0, ih1⟩ := marks_Merge.mono_l k
  unfold marks_Merge.f
  repeat' first
      | (with_reducible exact ih0 _ _ _ _ _ _ _ _ _ _ _ _)
      | (with_reducible exact ih1 _ _ _ _ _ _ _ _ _ _ _ _ _ _ _ _ _)
      | (with_reducible exact token_Ids.mono _ _)
      | (with_reducible exact weave_Chunks.mono _ _ _ _)
      | (with_reducible exact LeO.refl _)
      | (with_reducible exact LeO.none _)
      | (with_reducible refine LeO.ite ?_ ?_)
      | (with_reducible refine LeO.bind ?_ (fun _ => ?_))
      | exact ih0 _ _ _ _ _ _ _ _ _ _ _ _
      | exact ih1 _ _ _ _ _ _ _ _ _ _ _ _ _ _ _ _ _
      | exact token_Ids.mono _ _
      | exact weave_Chunks.mono _ _ _ _
      | exact LeO.none _
      | refine LeO.ite ?_ ?_
      | refine LeO.bind ?_ (fun _ => ?_)
def marks_Merge.T4 : Bool × List (List Nat × List Nat) := (true, [([], []), ([0], [0]), ([1], [1]), ([], []), ([3], [3]), ([4], [4]), ([], []), ([6], [6]), ([7], [7]), ([2, 5, 8], [2, 5, 8]), ([9], [9]), ([], [])])
def marks_Merge.B4 : List Nat := [0, 1, 3, 0, 8, 24, 0, 64, 192, 511, 1023, 0]
theorem marks_Merge.tab4 : rtab .any (opsOf Try.f46 4) = marks_Merge.T4 := by kernel_rfl
theorem marks_Merge.bits4 : waitsOk marks_Merge.T4.2 marks_Merge.B4 = true := by kernel_rfl
def marks_Merge.T7 : Bool × List (List Nat × List Nat) := (true, [([], []), ([], []), ([1], [1]), ([2], [2]), ([], []), ([4], [4]), ([5], [5]), ([0, 3, 6], [0, 3, 6]), ([], []), ([], []), ([9], [9]), ([10], [10]), ([], []), ([12], [12]), ([13], [13]), ([8, 11, 14], [8, 11, 14]), ([], []), ([], []), ([17], [17]), ([18], [18]), ([], []), ([20], [20]), ([21], [21]), ([16, 19, 22], [16, 19, 22]), ([7, 0, 1, 2, 3, 4, 5, 6, 7], [7]), ([15, 24, 0, 1, 2, 3, 4, 5, 6, 7, 8, 9, 10, 11, 12, 13, 14, 15, 24], [15]), ([23, 25, 0, 1, 2, 3, 4, 5, 6, 7, 8, 9, 10, 11, 12, 13, 14, 15, 16, 17, 18, 19, 20, 21, 22, 23, 24, 25], [23])])
def marks_Merge.B7 : List Nat := [0, 0, 2, 6, 0, 16, 48, 127, 0, 0, 512, 1536, 0, 4096, 12288, 32512, 0, 0, 131072, 393216, 0, 1048576, 3145728, 8323072, 255, 16842751, 67108863]
theorem marks_Merge.tab7 : rtab .any (opsOf Try.f46 7) = marks_Merge.T7 := by kernel_rfl
theorem marks_Merge.bits7 : waitsOk marks_Merge.T7.2 marks_Merge.B7 = true := by kernel_rfl
set_option maxHeartbeats 8000000 in
set_option maxRecDepth 100000 in
theorem marks_Merge.calls (k : Nat) (a0 : Int) (a1_0 : ByteArray) (a1_1 : ByteArray) (a1_2 : ByteArray) (P2_ : Nat → Prop) (A2 : Option Addr) (c2 : Nat) (l2 : List ByteArray) (P3_ : Nat → Prop) (A3 : Option Addr) (c3 : Nat) (l3 : List ByteArray) (P4_ : Nat → Prop) (A4 : Option Addr) (c4 : Nat) (l4 : List ByteArray) (r1 : List ByteArray) (r2 : Int) (w : World) (hs2 : Kd.V Kd.string 9 w w.heap.size (fun k_ => P2_ k_) (.slice A2 l2.length c2) l2) (hs3 : Kd.V Kd.string 9 w w.heap.size (fun k_ => P3_ k_) (.slice A3 l3.length c3) l3) (hs4 : Kd.V Kd.string 9 w w.heap.size (fun k_ => P4_ k_) (.slice A4 l4.length c4) l4) (h : marks_Merge.f k a0 a1_0 a1_1 a1_2 l2 l3 l4 = some (r1, r2)) :
    Calls Try.prog 46 #[.int .i64 a0, .agg #[.string a1_0, .string a1_1, .string a1_2], .slice A2 l2.length c2, .slice A3 l3.length c3, .slice A4 l4.length c4] w fun e w' => ∃ v0_ : Value, e = .returned (.tuple #[v0_, .int .i64 r2]) ∧ Kd.R Kd.string 9 w' w.heap.size (fun k_ => (w.heap.size ≤ k_)) v0_ r1 ∧ Below w.heap.size w w' := by
  have hu51 := Try.underlying51
  have hu75 := Try.underlying75
  have HO2 := Aside0.mk (show Kd.V Kd.string 9 w w.heap.size (fun k_ => ((P2_ k_ ∨ P3_ k_ ∨ P4_ k_) ∨ w.heap.size ≤ k_)) (.slice A2 l2.length c2) l2 from Kd.V_mono hs2 (fun k_ hk => .inl (.inl hk)))
  have HO3 := Aside0.mk (show Kd.V Kd.string 9 w w.heap.size (fun k_ => ((P2_ k_ ∨ P3_ k_ ∨ P4_ k_) ∨ w.heap.size ≤ k_)) (.slice A3 l3.length c3) l3 from Kd.V_mono hs3 (fun k_ hk => .inl (.inr (.inl hk))))
  have HO4 := Aside0.mk (show Kd.V Kd.string 9 w w.heap.size (fun k_ => ((P2_ k_ ∨ P3_ k_ ∨ P4_ k_) ∨ w.heap.size ≤ k_)) (.slice A4 l4.length c4) l4 from Kd.V_mono hs4 (fun k_ hk => .inl (.inr (.inr hk))))
  have HB := Aside0.mk (Below.refl w.heap.size w)
  have H : ((token_Ids.f k (([l2, l3, l4] : List (List ByteArray)))).bind fun t105 => (if 0 < (t105.length : Int) then (if 1 < (t105.length : Int) then (if 2 < (t105.length : Int) then ((weave_Chunks.f k (rd_L3 t105 0) (rd_L3 t105 1) (rd_L3 t105 2)).bind fun t111 => (marks_Merge.l0 k a0 l2 l3 l4 ([] : List ByteArray) 0 t111 (t111.length : Int) 0 a1_0 a1_1 a1_2)) else (none)) else (none)) else (none))) = some (r1, r2) := h
  clear h
  obtain ⟨y102, hy102⟩ : ∃ y_ : List (List ByteArray), y_ = (([l2, l3, l4] : List (List ByteArray))) := ⟨_, rfl⟩
  replace H : ((token_Ids.f k y102).bind fun t105 => (if 0 < (t105.length : Int) then (if 1 < (t105.length : Int) then (if 2 < (t105.length : Int) then ((weave_Chunks.f k (rd_L3 t105 0) (rd_L3 t105 1) (rd_L3 t105 2)).bind fun t111 => (marks_Merge.l0 k a0 l2 l3 l4 ([] : List ByteArray) 0 t111 (t111.length : Int) 0 a1_0 a1_1 a1_2)) else (none)) else (none)) else (none))) = some (r1, r2) := by first | (rw [hy102]; with_reducible exact H) | (have H2_ := (Option.bind_some _ _).symm.trans H; rw [hy102]; with_reducible exact H2_) | (have H2_ := (Option.bind_some _ _).symm.trans H; with_reducible exact H2_) | with_reducible exact H | (rw [hy102]; exact H) | exact H
  have Ny102 := Aside0.mk hy102
  clear hy102
  replace H := Option.bind_eq_some_iff.mp H
  obtain ⟨t105, A60, H⟩ := H
  replace H : (if 0 < (t105.length : Int) then (if 1 < (t105.length : Int) then (if 2 < (t105.length : Int) then ((weave_Chunks.f k (rd_L3 t105 0) (rd_L3 t105 1) (rd_L3 t105 2)).bind fun t111 => (marks_Merge.l0 k a0 l2 l3 l4 ([] : List ByteArray) 0 t111 (t111.length : Int) 0 a1_0 a1_1 a1_2)) else (none)) else (none)) else (none)) = some (r1, r2) := H
  have A6 := Aside0.mk A60
  clear A60
  by_cases c7 : 0 < (t105.length : Int)
  · rw [if_pos c7] at H
    have c7b0 : decide (0 < (t105.length : Int)) = true := decide_eq_true c7
    have c7b1 : decide (0 < t105.length) = true := decide_eq_true (by omega)
    clear c7
    by_cases c8 : 1 < (t105.length : Int)
    · rw [if_pos c8] at H
      have c8b0 : decide (1 < (t105.length : Int)) = true := decide_eq_true c8
      have c8b1 : decide (1 < t105.length) = true := decide_eq_true (by omega)
      clear c8
      by_cases c9 : 2 < (t105.length : Int)
      · rw [if_pos c9] at H
        have c9b0 : decide (2 < (t105.length : Int)) = true := decide_eq_true c9
        have c9b1 : decide (2 < t105.length) = true := decide_eq_true (by omega)
        clear c9
        replace H := Option.bind_eq_some_iff.mp H
        obtain ⟨t111, A100, H⟩ := H
        replace H : (marks_Merge.l0 k a0 l2 l3 l4 ([] : List ByteArray) 0 t111 (t111.length : Int) 0 a1_0 a1_1 a1_2) = some (r1, r2) := H
        have A10 := Aside0.mk A100
        clear A100
        have H' := Aside0.mk H
        clear H
        go_enter Try.func46, Try.ntmps46
        try go_wp2_with (first | ((with_reducible refine gate_dst (N := 6) rfl ?_); refine box_event ?hg (N := 6) ?hd (cs := #[.string a1_0, .string a1_1, .string a1_2]) (t := 51) ?hr ?_; (case hd => rfl); (case hg => rfl); (case hr => first | (go_simp; done) | (go_simp; rfl)); intro gb101 hg w11 hbox hb; have n0_ := Aside0.mk (Kd.V_below (Kd.V_elderB (by (with_reducible repeat (first | apply Kd.V_alloc | apply Kd.V_drewN | apply Kd.V_drew)); exact HO2.out) gb101 (Nat.le_of_eq hg.symm)) hb); have n1_ := Aside0.mk (Kd.V_below (Kd.V_elderB (by (with_reducible repeat (first | apply Kd.V_alloc | apply Kd.V_drewN | apply Kd.V_drew)); exact HO3.out) gb101 (Nat.le_of_eq hg.symm)) hb); have n2_ := Aside0.mk (Kd.V_below (Kd.V_elderB (by (with_reducible repeat (first | apply Kd.V_alloc | apply Kd.V_drewN | apply Kd.V_drew)); exact HO4.out) gb101 (Nat.le_of_eq hg.symm)) hb); have n3_ := Aside0.mk (below_step (by repeat (first | (with_reducible first | exact HB.out | apply below_alloc | apply pw_below_drewN | apply below_drew1) | exact HB.out)) hb); have n4_ := Aside0.mk (hbox); have n5_ := Aside0.mk ((by rw [hg]; exact (below_size (by repeat (first | (with_reducible first | exact HB.out | apply below_alloc | apply pw_below_drewN | apply below_drew1) | exact HB.out))) : w.heap.size ≤ gb101)); have n6_ := Aside0.mk ((by rw [hg]; exact (below_size (by repeat (first | (with_reducible first | exact HB.out | apply below_alloc | apply pw_below_drewN | apply below_drew1) | exact HB.out))) : w.heap.size ≤ gb101)); clear HO2; clear HO3; clear HO4; clear HB; have HO2 := n0_; have HO3 := n1_; have HO4 := n2_; have HB := n3_; have BK101 := n4_; have GW101 := n5_; have GE101 := n6_; clear n0_ n1_ n2_ n3_ n4_ n5_ n6_; clear hb hbox hg) | ((with_reducible refine gate_dst (N := 23) rfl ?_); refine Kd.N_lit (Kd.slice 9 Kd.string) _ 24 ?hg (N' := 23) ?hd (xs := ([l2, l3, l4] : List (List ByteArray))) (inner := [.slice A2 l2.length c2, .slice A3 l3.length c3, .slice A4 l4.length c4]) (ok := (fun k_ => ((P2_ k_ ∨ P3_ k_ ∨ P4_ k_) ∨ w.heap.size ≤ k_) ∧ k_ ≠ gb101)) (okp := (fun k_ => ((P2_ k_ ∨ P3_ k_ ∨ P4_ k_) ∨ w.heap.size ≤ k_) ∧ k_ ≠ gb101)) ?hr ?hp (fun _ hk => hk) ((show ∀ k_, w11.heap.size ≤ k_ → (fun k_ => ((P2_ k_ ∨ P3_ k_ ∨ P4_ k_) ∨ w.heap.size ≤ k_) ∧ k_ ≠ gb101) k_ from fun k_ hk => ⟨(.inr (Nat.le_trans (below_size (by repeat (first | (with_reducible first | exact HB.out | apply below_alloc | apply pw_below_drewN | apply below_drew1 | refine below_set ?_ GE101.out) | exact HB.out))) hk)), Kd.freshB (g := gb101) (o := .cells #[.string a1_0, .string a1_1, .string a1_2] 51 (0, 0)) (by (with_reducible repeat (first | refine blk_drewN ?_ _ | refine blk_drew ?_ | refine blk_alloc ?_ _)); exact BK101.out) k_ hk⟩) _ (Nat.le_refl _)) (Below.refl _ _) (Nat.le_refl _) (by simp) ?_; (case hd => rfl); (case hg => rfl); (case hr => first | (go_simp; done) | (go_simp; rfl)); (case hp => exact (Reps.one (show Kd.FK (Kd.slice 9 Kd.string) _ _ l2 [.slice A2 l2.length c2] from (Kd.FK_slice_mk (Kd.V_reads' (Kd.V_mono (ok' := (fun k_ => ((P2_ k_ ∨ P3_ k_ ∨ P4_ k_) ∨ w.heap.size ≤ k_) ∧ k_ ≠ gb101)) (HO2.out) (fun k_ hk => ⟨hk.1, hk.2⟩))).2.1 (Kd.V_F (Kd.V_mono (ok' := (fun k_ => ((P2_ k_ ∨ P3_ k_ ∨ P4_ k_) ∨ w.heap.size ≤ k_) ∧ k_ ≠ gb101)) (HO2.out) (fun k_ hk => ⟨hk.1, hk.2⟩))))) (Reps.one (show Kd.FK (Kd.slice 9 Kd.string) _ _ l3 [.slice A3 l3.length c3] from (Kd.FK_slice_mk (Kd.V_reads' (Kd.V_mono (ok' := (fun k_ => ((P2_ k_ ∨ P3_ k_ ∨ P4_ k_) ∨ w.heap.size ≤ k_) ∧ k_ ≠ gb101)) (HO3.out) (fun k_ hk => ⟨hk.1, hk.2⟩))).2.1 (Kd.V_F (Kd.V_mono (ok' := (fun k_ => ((P2_ k_ ∨ P3_ k_ ∨ P4_ k_) ∨ w.heap.size ≤ k_) ∧ k_ ≠ gb101)) (HO3.out) (fun k_ hk => ⟨hk.1, hk.2⟩))))) (Reps.one (show Kd.FK (Kd.slice 9 Kd.string) _ _ l4 [.slice A4 l4.length c4] from (Kd.FK_slice_mk (Kd.V_reads' (Kd.V_mono (ok' := (fun k_ => ((P2_ k_ ∨ P3_ k_ ∨ P4_ k_) ∨ w.heap.size ≤ k_) ∧ k_ ≠ gb101)) (HO4.out) (fun k_ hk => ⟨hk.1, hk.2⟩))).2.1 (Kd.V_F (Kd.V_mono (ok' := (fun k_ => ((P2_ k_ ∨ P3_ k_ ∨ P4_ k_) ∨ w.heap.size ≤ k_) ∧ k_ ≠ gb101)) (HO4.out) (fun k_ hk => ⟨hk.1, hk.2⟩))))) (Reps.none _ _))))); intro v103 w12 ho13 hb hg_ hnew_; clear hg_ hnew_; (first | rw [← Ny102.out] at ho13 | (simp only [Int.reduceToNat] at ho13; rw [← Ny102.out] at ho13)); have n0_ := Aside0.mk (Kd.V_elder' (by (with_reducible repeat (first | apply Kd.V_alloc | apply Kd.V_drewN | apply Kd.V_drew)); exact HO2.out) (Kd.N_base ho13) hb); have n1_ := Aside0.mk (Kd.V_elder' (by (with_reducible repeat (first | apply Kd.V_alloc | apply Kd.V_drewN | apply Kd.V_drew)); exact HO3.out) (Kd.N_base ho13) hb); have n2_ := Aside0.mk (Kd.V_elder' (by (with_reducible repeat (first | apply Kd.V_alloc | apply Kd.V_drewN | apply Kd.V_drew)); exact HO4.out) (Kd.N_base ho13) hb); have n3_ := Aside0.mk (Kd.N_lower ho13 (below_size (by repeat (first | (with_reducible first | exact HB.out | apply below_alloc | apply pw_below_drewN | apply below_drew1 | refine below_set ?_ GE101.out) | exact HB.out)))); have n4_ := Aside0.mk (blk_below (g := gb101) (o := .cells #[.string a1_0, .string a1_1, .string a1_2] 51 (0, 0)) (by (with_reducible repeat (first | refine blk_drewN ?_ _ | refine blk_drew ?_ | refine blk_alloc ?_ _)); exact BK101.out) hb); have n5_ := Aside0.mk (below_step (by repeat (first | (with_reducible first | exact HB.out | apply below_alloc | apply pw_below_drewN | apply below_drew1 | refine below_set ?_ GE101.out) | exact HB.out)) hb); clear HO2; clear HO3; clear HO4; clear BK101; clear HB; have HO2 := n0_; have HO3 := n1_; have HO4 := n2_; have HO104 := n3_; have BK101 := n4_; have HB := n5_; clear n0_ n1_ n2_ n3_ n4_ n5_; clear hb ho13; obtain ⟨Ao14, co14, eo14⟩ := Kd.N_slice HO104.out; subst eo14) | ((with_reducible refine gate_callee (f := 60) rfl ?_); refine goesL_ (some 24) rfl rfl Try.func60 (by kernel_rfl) rfl #[.slice Ao14 y102.length co14] rfl (by (try simp only [List.map_toArray, List.map_cons, List.map_nil]); first | done | rfl | (simp only [List.length_drop, List.length_take]; rfl)) ?_; (with_reducible refine (token_Ids.calls k _ _ y102 t105 _ ?side1 ?side2 A6.out).mono ?_); (case side1 => repeat (first | exact (Kd.N_reads' HO104.out).2.2 | (with_reducible refine Kd.C_alloc ?_ _) | (with_reducible refine Kd.C_drewN ?_ _) | (with_reducible refine Kd.C_drew ?_))); (case side2 => exact (Kd.N_reads' HO104.out).2.1); rintro e w15 ⟨v106, rfl, ho0, hb⟩; refine ⟨_, rfl, ?_⟩; have n0_ := Aside0.mk (Kd.V_elder' (by (with_reducible repeat (first | apply Kd.V_alloc | apply Kd.V_drewN | apply Kd.V_drew)); exact HO2.out) (Kd.N_base (Kd.S_N ho0)) hb); have n1_ := Aside0.mk (Kd.V_elder' (by (with_reducible repeat (first | apply Kd.V_alloc | apply Kd.V_drewN | apply Kd.V_drew)); exact HO3.out) (Kd.N_base (Kd.S_N ho0)) hb); have n2_ := Aside0.mk (Kd.V_elder' (by (with_reducible repeat (first | apply Kd.V_alloc | apply Kd.V_drewN | apply Kd.V_drew)); exact HO4.out) (Kd.N_base (Kd.S_N ho0)) hb); have n3_ := Aside0.mk (Kd.N_elder' (by (with_reducible repeat (first | apply Kd.N_alloc | apply Kd.N_drewN | apply Kd.N_drew)); exact HO104.out) (Kd.N_base (Kd.S_N ho0)) hb); have n4_ := Aside0.mk (Kd.N_lower (Kd.N_mono (ok' := fun k_ => ((P2_ k_ ∨ P3_ k_ ∨ P4_ k_) ∨ w.heap.size ≤ k_) ∧ some k_ ≠ (.slice Ao14 y102.length co14 : Value).ownBlock ∧ k_ ≠ gb101) (Kd.S_N (Kd.S_bound ho0)) (fun k_ hk_ => ⟨(.inr (Nat.le_trans (below_size (by repeat (first | (with_reducible first | exact HB.out | apply below_alloc | apply pw_below_drewN | apply below_drew1 | refine below_set ?_ GE101.out) | exact HB.out))) hk_.2.1)), (Kd.fresh' (Kd.N_lt (by (with_reducible repeat (first | apply Kd.N_alloc | apply Kd.N_drewN | apply Kd.N_drew)); exact HO104.out)) k_ hk_.2.1), (Kd.freshB (g := gb101) (o := .cells #[.string a1_0, .string a1_1, .string a1_2] 51 (0, 0)) (by (with_reducible repeat (first | refine blk_drewN ?_ _ | refine blk_drew ?_ | refine blk_alloc ?_ _)); exact BK101.out) k_ hk_.2.1)⟩)) (below_size (by repeat (first | (with_reducible first | exact HB.out | apply below_alloc | apply pw_below_drewN | apply below_drew1 | refine below_set ?_ GE101.out) | exact HB.out)))); have n5_ := Aside0.mk (blk_below (g := gb101) (o := .cells #[.string a1_0, .string a1_1, .string a1_2] 51 (0, 0)) (by (with_reducible repeat (first | refine blk_drewN ?_ _ | refine blk_drew ?_ | refine blk_alloc ?_ _)); exact BK101.out) hb); have n6_ := Aside0.mk (below_step (by repeat (first | (with_reducible first | exact HB.out | apply below_alloc | apply pw_below_drewN | apply below_drew1 | refine below_set ?_ GE101.out) | exact HB.out)) hb); clear HO2; clear HO3; clear HO4; clear HO104; clear BK101; clear HB; have HO2 := n0_; have HO3 := n1_; have HO4 := n2_; have HO104 := n3_; have HO107 := n4_; have BK101 := n5_; have HB := n6_; clear n0_ n1_ n2_ n3_ n4_ n5_ n6_; (try clear hb); (try clear hb2); (try clear hk); (try clear hi); (try clear ho0)))
        have n0_ := Aside0.mk (Kd.V_drew HO2.out)
        have n1_ := Aside0.mk (Kd.V_drew HO3.out)
        have n2_ := Aside0.mk (Kd.V_drew HO4.out)
        have n3_ := Aside0.mk (Kd.N_drew HO104.out)
        have n4_ := Aside0.mk (Kd.N_drew HO107.out)
        have n5_ := Aside0.mk (blk_drew BK101.out)
        have n6_ := Aside0.mk (below_drew1 HB.out)
        clear HO2
        clear HO3
        clear HO4
        clear HO104
        clear HO107
        clear BK101
        clear HB
        have HO2 := n0_
        have HO3 := n1_
        have HO4 := n2_
        have HO104 := n3_
        have HO107 := n4_
        have BK101 := n5_
        have HB := n6_
        clear n0_ n1_ n2_ n3_ n4_ n5_ n6_
        obtain ⟨Ao17, co17, eo17⟩ := Kd.N_slice HO107.out
        (first | subst eo17 | (injection eo17 with f1_ f2_ f3_; have f4_ := f1_.symm; have f5_ := f3_.symm; clear f1_ f2_ f3_; subst f4_; subst f5_))
        have p108 : 0 ≤ (0 : Int) := (by omega)
        have q108 : 0 < (t105.length : Int) := of_decide_eq_true (by first | (with_reducible assumption) | assumption)
        obtain ⟨ad108, A108_0, c108_0, e108, hx108_0, hl108_0, hi108_0⟩ := at_L3 (Kd.N_reads' HO107.out).2.2 0 p108 q108
        cases e108
        obtain ⟨ce108, hce108, hMe108, hcc108⟩ := Kd.N_get HO107.out [] 0 p108 (by first | exact q108 | exact of_decide_eq_true (by first | (with_reducible assumption) | assumption) | (have e_ := (Kd.N_reads' HO107.out).1; omega))
        obtain ⟨ua108_0, uc108_0, rfl, ul108_0, ge108_0⟩ := Kd.FK_slice_open hMe108
        have hv108_0 := hcc108 0 _ rfl
        rw [Nat.add_zero, show ((Kd.slice 3 (Kd.int .i64))).sz = 1 from rfl, Nat.mul_one] at hv108_0
        replace hv108_0 := Option.some.inj (hv108_0.symm.trans hx108_0)
        injection hv108_0 with hva_ hvn_ hvc_
        rw [hva_] at ge108_0
        rw [hvc_] at ul108_0
        have HL108_0 := Aside0.mk (show Kd.V (Kd.int .i64) 3 _ w.heap.size _ _ (rd_L3 t105 0) from Kd.V_mk ul108_0 ge108_0)
        clear hva_ hvn_ hvc_ ge108_0 ul108_0
        clear hcc108 hce108
        have qi108 : (0 < t105.length) = True := eq_true (by omega)
        (try rw [show ((0 : Int)).toNat = 0 from rfl] at hx108_0)
        (try rw [Addr.add_zero'] at hx108_0)
        have HR108_0 := Aside0.mk hi108_0
        have HC108_0 := Aside0.mk hl108_0
        clear hi108_0 hl108_0
        replace p108 := eq_true p108
        replace q108 := eq_true q108
        have p109 : 0 ≤ (1 : Int) := (by omega)
        have q109 : 1 < (t105.length : Int) := of_decide_eq_true (by first | (with_reducible assumption) | assumption)
        obtain ⟨ad109, A109_0, c109_0, e109, hx109_0, hl109_0, hi109_0⟩ := at_L3 (Kd.N_reads' HO107.out).2.2 1 p109 q109
        obtain rfl : ad108 = ad109 := (by injection e109)
        obtain ⟨ce109, hce109, hMe109, hcc109⟩ := Kd.N_get HO107.out [] 1 p109 (by first | exact q109 | exact of_decide_eq_true (by first | (with_reducible assumption) | assumption) | (have e_ := (Kd.N_reads' HO107.out).1; omega))
        obtain ⟨ua109_0, uc109_0, rfl, ul109_0, ge109_0⟩ := Kd.FK_slice_open hMe109
        have hv109_0 := hcc109 0 _ rfl
        rw [Nat.add_zero, show ((Kd.slice 3 (Kd.int .i64))).sz = 1 from rfl, Nat.mul_one] at hv109_0
        replace hv109_0 := Option.some.inj (hv109_0.symm.trans hx109_0)
        injection hv109_0 with hva_ hvn_ hvc_
        rw [hva_] at ge109_0
        rw [hvc_] at ul109_0
        have HL109_0 := Aside0.mk (show Kd.V (Kd.int .i64) 3 _ w.heap.size _ _ (rd_L3 t105 1) from Kd.V_mk ul109_0 ge109_0)
        clear hva_ hvn_ hvc_ ge109_0 ul109_0
        clear hcc109 hce109
        (try simp only [show (1 : Int).toNat = 1 from rfl, Nat.reduceMul, Nat.reduceEqDiff, Go.Addr.add, ↓reduceIte] at hx109_0)
        have qi109 : (1 < t105.length) = True := eq_true (by omega)
        (try rw [show ((1 : Int)).toNat = 1 from rfl] at hx109_0)
        have HR109_0 := Aside0.mk hi109_0
        have HC109_0 := Aside0.mk hl109_0
        clear hi109_0 hl109_0
        replace p109 := eq_true p109
        replace q109 := eq_true q109
        have p110 : 0 ≤ (2 : Int) := (by omega)
        have q110 : 2 < (t105.length : Int) := of_decide_eq_true (by first | (with_reducible assumption) | assumption)
        obtain ⟨ad110, A110_0, c110_0, e110, hx110_0, hl110_0, hi110_0⟩ := at_L3 (Kd.N_reads' HO107.out).2.2 2 p110 q110
        obtain rfl : ad108 = ad110 := (by injection e110)
        obtain ⟨ce110, hce110, hMe110, hcc110⟩ := Kd.N_get HO107.out [] 2 p110 (by first | exact q110 | exact of_decide_eq_true (by first | (with_reducible assumption) | assumption) | (have e_ := (Kd.N_reads' HO107.out).1; omega))
        obtain ⟨ua110_0, uc110_0, rfl, ul110_0, ge110_0⟩ := Kd.FK_slice_open hMe110
        have hv110_0 := hcc110 0 _ rfl
        rw [Nat.add_zero, show ((Kd.slice 3 (Kd.int .i64))).sz = 1 from rfl, Nat.mul_one] at hv110_0
        replace hv110_0 := Option.some.inj (hv110_0.symm.trans hx110_0)
        injection hv110_0 with hva_ hvn_ hvc_
        rw [hva_] at ge110_0
        rw [hvc_] at ul110_0
        have HL110_0 := Aside0.mk (show Kd.V (Kd.int .i64) 3 _ w.heap.size _ _ (rd_L3 t105 2) from Kd.V_mk ul110_0 ge110_0)
        clear hva_ hvn_ hvc_ ge110_0 ul110_0
        clear hcc110 hce110
        (try simp only [show (2 : Int).toNat = 2 from rfl, Nat.reduceMul, Nat.reduceEqDiff, Go.Addr.add, ↓reduceIte] at hx110_0)
        have qi110 : (2 < t105.length) = True := eq_true (by omega)
        (try rw [show ((2 : Int)).toNat = 2 from rfl] at hx110_0)
        have HR110_0 := Aside0.mk hi110_0
        have HC110_0 := Aside0.mk hl110_0
        clear hi110_0 hl110_0
        replace p110 := eq_true p110
        replace q110 := eq_true q110
        refine start_ (n := 12) (S := fun w' => w'.cell? ad108 = some (.slice A108_0 (rd_L3 t105 0).length c108_0) ∧ w'.cell? ⟨ad108.block, ad108.off + 1, none⟩ = some (.slice A109_0 (rd_L3 t105 1).length c109_0) ∧ w'.cell? ⟨ad108.block, ad108.off + 2, none⟩ = some (.slice A110_0 (rd_L3 t105 2).length c110_0)) (ds := []) #[false, false, false, false, false, false, false, false, false, false, false, false] (by kernel_rfl) rfl rfl ⟨hx108_0, hx109_0, hx110_0⟩ (fun hHeld => ?_); refine with_tabW marks_Merge.tab4 marks_Merge.bits4 (fun HT_ HW_ => ?_)
        generalize w15.drew = w16 at HO2 HO3 HO4 HO104 HO107 BK101 HB HL108_0 HL109_0 HL110_0 HR108_0 HR109_0 HR110_0 hx108_0 hx109_0 hx110_0 hHeld ⊢
        refine pure_ (i := 0) (N := some 25) (v := ?_) (a' := ?_) #[true, false, false, false, false, false, false, false, false, false, false, false] rfl rfl (any_of HT_.out (by kernel_rfl)) (fun _ _ _ h => h) (Or.inl ⟨by rfl, ?_⟩) ?_ ?_
        rotate_left
        · intro w'
          go_simp
          with_reducible rfl
        rotate_left
        · simp only [Act.put, List.setIfInBounds_toArray, List.set_cons_zero, List.set_cons_succ, i64_w, i32_w]
          rfl
        refine pure_ (i := 1) (N := some 26) (v := ?_) (a' := ?_) #[true, true, false, false, false, false, false, false, false, false, false, false] rfl rfl (any_of HT_.out (by kernel_rfl)) (fun _ _ _ h => h) (Or.inl ⟨by rfl, ?_⟩) ?_ ?_
        rotate_left
        · intro w'
          go_simp
          with_reducible rfl
        rotate_left
        · simp only [Act.put, List.setIfInBounds_toArray, List.set_cons_zero, List.set_cons_succ, i64_w, i32_w]
          rfl
        refine pure_ (i := 3) (N := some 28) (v := ?_) (a' := ?_) #[true, true, false, true, false, false, false, false, false, false, false, false] rfl rfl (any_of HT_.out (by kernel_rfl)) (fun _ _ _ h => h) (Or.inl ⟨by rfl, ?_⟩) ?_ ?_
        rotate_left
        · intro w'
          go_simp
          with_reducible rfl
        rotate_left
        · simp only [Act.put, List.setIfInBounds_toArray, List.set_cons_zero, List.set_cons_succ, i64_w, i32_w]
          rfl
        refine pure_ (i := 4) (N := some 29) (v := ?_) (a' := ?_) #[true, true, false, true, true, false, false, false, false, false, false, false] rfl rfl (any_of HT_.out (by kernel_rfl)) (fun _ _ _ h => h) (Or.inl ⟨by rfl, ?_⟩) ?_ ?_
        rotate_left
        · intro w'
          go_simp
          with_reducible rfl
        rotate_left
        · simp only [Act.put, List.setIfInBounds_toArray, List.set_cons_zero, List.set_cons_succ, i64_w, i32_w]
          rfl
        refine pure_ (i := 6) (N := some 31) (v := ?_) (a' := ?_) #[true, true, false, true, true, false, true, false, false, false, false, false] rfl rfl (any_of HT_.out (by kernel_rfl)) (fun _ _ _ h => h) (Or.inl ⟨by rfl, ?_⟩) ?_ ?_
        rotate_left
        · intro w'
          go_simp
          with_reducible rfl
        rotate_left
        · simp only [Act.put, List.setIfInBounds_toArray, List.set_cons_zero, List.set_cons_succ, i64_w, i32_w]
          rfl
        refine pure_ (i := 7) (N := some 32) (v := ?_) (a' := ?_) #[true, true, false, true, true, false, true, true, false, false, false, false] rfl rfl (any_of HT_.out (by kernel_rfl)) (fun _ _ _ h => h) (Or.inl ⟨by rfl, ?_⟩) ?_ ?_
        rotate_left
        · intro w'
          go_simp
          with_reducible rfl
        rotate_left
        · simp only [Act.put, List.setIfInBounds_toArray, List.set_cons_zero, List.set_cons_succ, i64_w, i32_w]
          rfl
        refine pure_ (i := 11) (N := some 36) (v := ?_) (a' := ?_) #[true, true, false, true, true, false, true, true, false, false, false, true] rfl rfl (any_of HT_.out (by kernel_rfl)) (fun _ _ _ h => h) (Or.inl ⟨by rfl, ?_⟩) ?_ ?_
        rotate_left
        · intro w'
          go_simp
          with_reducible rfl
        rotate_left
        · simp only [Act.put, List.setIfInBounds_toArray, List.set_cons_zero, List.set_cons_succ, i64_w, i32_w]
          rfl
        refine take_ (i := 2) (N := some 27) (v := ?_) (a' := ?_) #[true, true, true, true, true, false, true, true, false, false, false, true] rfl rfl (take_ofW HT_.out HW_.out (by kernel_rfl)) (fun _ _ _ h => h) (Or.inl ⟨by rfl, ?_⟩) hHeld ?_ ?_
        rotate_left
        · rintro w' ⟨s0, s1, s2⟩
          go_simp
          with_reducible rfl
        rotate_left
        · simp only [Act.put, List.setIfInBounds_toArray, List.set_cons_zero, List.set_cons_succ, i64_w, i32_w]
          rfl
        refine take_ (i := 5) (N := some 30) (v := ?_) (a' := ?_) #[true, true, true, true, true, true, true, true, false, false, false, true] rfl rfl (take_ofW HT_.out HW_.out (by kernel_rfl)) (fun _ _ _ h => h) (Or.inl ⟨by rfl, ?_⟩) hHeld ?_ ?_
        rotate_left
        · rintro w' ⟨s0, s1, s2⟩
          go_simp
          with_reducible rfl
        rotate_left
        · simp only [Act.put, List.setIfInBounds_toArray, List.set_cons_zero, List.set_cons_succ, i64_w, i32_w]
          rfl
        refine take_ (i := 8) (N := some 33) (v := ?_) (a' := ?_) #[true, true, true, true, true, true, true, true, true, false, false, true] rfl rfl (take_ofW HT_.out HW_.out (by kernel_rfl)) (fun _ _ _ h => h) (Or.inl ⟨by rfl, ?_⟩) hHeld ?_ ?_
        rotate_left
        · rintro w' ⟨s0, s1, s2⟩
          go_simp
          with_reducible rfl
        rotate_left
        · simp only [Act.put, List.setIfInBounds_toArray, List.set_cons_zero, List.set_cons_succ, i64_w, i32_w]
          rfl
        refine one_ (i := 9) (N := some 34) #[true, true, true, true, true, true, true, true, true, true, false, true] rfl rfl (one_of HT_.out (by kernel_rfl)) (by decide) (fun K hK => ?_)
        refine goes_ Try.func51 (by kernel_rfl) rfl #[.slice A108_0 (rd_L3 t105 0).length c108_0, .slice A109_0 (rd_L3 t105 1).length c109_0, .slice A110_0 (rd_L3 t105 2).length c110_0] (by rfl) rfl rfl (by (try simp only [List.map_toArray, List.map_cons, List.map_nil]); first | done | rfl | (simp only [List.length_drop, List.length_take]; rfl)) ?_
        with_reducible refine (weave_Chunks.calls k _ _ (rd_L3 t105 0) _ _ (rd_L3 t105 1) _ _ (rd_L3 t105 2) t111 _ ?side1 ?side2 ?side3 ?side4 ?side5 ?side6 A10.out).mono ?_
        (case side1 => repeat (first | exact (by repeat (first | (with_reducible exact HR108_0.out) | (with_reducible refine Kd.C_alloc ?_ _) | (with_reducible refine Kd.C_drewN ?_ _) | (with_reducible refine Kd.C_drew ?_) | exact HR108_0.out)) | (with_reducible refine Kd.C_alloc ?_ _) | (with_reducible refine Kd.C_drewN ?_ _) | (with_reducible refine Kd.C_drew ?_)))
        (case side2 => exact HC108_0.out)
        (case side3 => repeat (first | exact (by repeat (first | (with_reducible exact HR109_0.out) | (with_reducible refine Kd.C_alloc ?_ _) | (with_reducible refine Kd.C_drewN ?_ _) | (with_reducible refine Kd.C_drew ?_) | exact HR109_0.out)) | (with_reducible refine Kd.C_alloc ?_ _) | (with_reducible refine Kd.C_drewN ?_ _) | (with_reducible refine Kd.C_drew ?_)))
        (case side4 => exact HC109_0.out)
        (case side5 => repeat (first | exact (by repeat (first | (with_reducible exact HR110_0.out) | (with_reducible refine Kd.C_alloc ?_ _) | (with_reducible refine Kd.C_drewN ?_ _) | (with_reducible refine Kd.C_drew ?_) | exact HR110_0.out)) | (with_reducible refine Kd.C_alloc ?_ _) | (with_reducible refine Kd.C_drewN ?_ _) | (with_reducible refine Kd.C_drew ?_)))
        (case side6 => exact HC110_0.out)
        rintro e w18 ⟨v112, rfl, ho0, hb⟩
        have HS0_ := (hb.cell (World.block_lt_of_cell? _ _ (hHeld.1))).trans (hHeld.1)
        have HS1_ := (hb.cell (World.block_lt_of_cell? _ _ (hHeld.2.1))).trans (hHeld.2.1)
        have HS2_ := (hb.cell (World.block_lt_of_cell? _ _ (hHeld.2.2))).trans (hHeld.2.2)
        refine ⟨_, rfl, ?_⟩
        have n0_ := Aside0.mk (Kd.V_elder' (by (with_reducible repeat (first | apply Kd.V_alloc | apply Kd.V_drewN | apply Kd.V_drew)); exact HO2.out) (Kd.R_base ho0) hb)
        have n1_ := Aside0.mk (Kd.V_elder' (by (with_reducible repeat (first | apply Kd.V_alloc | apply Kd.V_drewN | apply Kd.V_drew)); exact HO3.out) (Kd.R_base ho0) hb)
        have n2_ := Aside0.mk (Kd.V_elder' (by (with_reducible repeat (first | apply Kd.V_alloc | apply Kd.V_drewN | apply Kd.V_drew)); exact HO4.out) (Kd.R_base ho0) hb)
        have n3_ := Aside0.mk (Kd.N_elder' (by (with_reducible repeat (first | apply Kd.N_alloc | apply Kd.N_drewN | apply Kd.N_drew)); exact HO104.out) (Kd.R_base ho0) hb)
        have n4_ := Aside0.mk (Kd.N_elder' (by (with_reducible repeat (first | apply Kd.N_alloc | apply Kd.N_drewN | apply Kd.N_drew)); exact HO107.out) (Kd.R_base ho0) hb)
        have n5_ := Aside0.mk (Kd.V_elder' (by (with_reducible repeat (first | apply Kd.V_alloc | apply Kd.V_drewN | apply Kd.V_drew)); exact HL108_0.out) (Kd.R_base ho0) hb)
        have n6_ := Aside0.mk (Kd.V_elder' (by (with_reducible repeat (first | apply Kd.V_alloc | apply Kd.V_drewN | apply Kd.V_drew)); exact HL109_0.out) (Kd.R_base ho0) hb)
        have n7_ := Aside0.mk (Kd.V_elder' (by (with_reducible repeat (first | apply Kd.V_alloc | apply Kd.V_drewN | apply Kd.V_drew)); exact HL110_0.out) (Kd.R_base ho0) hb)
        have n8_ := Aside0.mk (Kd.R_lower (Kd.R_newM (M := fun k_ => (w.heap.size ≤ k_)) ho0 (below_size (by repeat (first | (with_reducible first | exact HB.out | apply below_alloc | apply pw_below_drewN | apply below_drew1 | refine below_set ?_ GE101.out) | exact HB.out))) (fun k_ h_ => h_)) (below_size (by repeat (first | (with_reducible first | exact HB.out | apply below_alloc | apply pw_below_drewN | apply below_drew1 | refine below_set ?_ GE101.out) | exact HB.out))))
        have n9_ := Aside0.mk (blk_below (g := gb101) (o := .cells #[.string a1_0, .string a1_1, .string a1_2] 51 (0, 0)) (by (with_reducible repeat (first | refine blk_drewN ?_ _ | refine blk_drew ?_ | refine blk_alloc ?_ _)); exact BK101.out) hb)
        have n10_ := Aside0.mk (Kd.C_below (by repeat (first | (with_reducible exact HR108_0.out) | (with_reducible refine Kd.C_alloc ?_ _) | (with_reducible refine Kd.C_drewN ?_ _) | (with_reducible refine Kd.C_drew ?_) | exact HR108_0.out)) hb)
        have n11_ := Aside0.mk (Kd.C_below (by repeat (first | (with_reducible exact HR109_0.out) | (with_reducible refine Kd.C_alloc ?_ _) | (with_reducible refine Kd.C_drewN ?_ _) | (with_reducible refine Kd.C_drew ?_) | exact HR109_0.out)) hb)
        have n12_ := Aside0.mk (Kd.C_below (by repeat (first | (with_reducible exact HR110_0.out) | (with_reducible refine Kd.C_alloc ?_ _) | (with_reducible refine Kd.C_drewN ?_ _) | (with_reducible refine Kd.C_drew ?_) | exact HR110_0.out)) hb)
        have n13_ := Aside0.mk (below_step (by repeat (first | (with_reducible first | exact HB.out | apply below_alloc | apply pw_below_drewN | apply below_drew1 | refine below_set ?_ GE101.out) | exact HB.out)) hb)
        clear HO2
        clear HO3
        clear HO4
        clear HO104
        clear HO107
        clear HL108_0
        clear HL109_0
        clear HL110_0
        clear BK101
        clear HR108_0
        clear HR109_0
        clear HR110_0
        clear HB
        have HO2 := n0_
        have HO3 := n1_
        have HO4 := n2_
        have HO104 := n3_
        have HO107 := n4_
        have HL108_0 := n5_
        have HL109_0 := n6_
        have HL110_0 := n7_
        have HO113 := n8_
        have BK101 := n9_
        have HR108_0 := n10_
        have HR109_0 := n11_
        have HR110_0 := n12_
        have HB := n13_
        clear n0_ n1_ n2_ n3_ n4_ n5_ n6_ n7_ n8_ n9_ n10_ n11_ n12_ n13_
        (try clear hb)
        (try clear hb2)
        (try clear hk)
        (try clear hi)
        (try clear ho0)
        obtain ⟨Ao19, co19, eo19⟩ := Kd.R_slice HO113.out
        (first | subst eo19 | (injection eo19 with f1_ f2_ f3_; have f4_ := f1_.symm; have f5_ := f3_.symm; clear f1_ f2_ f3_; subst f4_; subst f5_))
        refine hK.out _ _ ⟨HS0_, HS1_, HS2_⟩ (fun hHeld => ?_)
        clear hK K
        refine norm_ (a' := ?_) ?_ ?_
        rotate_left
        · show Act.put _ (some 34) _ = _
          simp only [Act.put, List.setIfInBounds_toArray, List.set_cons_zero, List.set_cons_succ, i64_w, i32_w]
          rfl
        refine pure_ (i := 10) (N := some 35) (v := ?_) (a' := ?_) #[true, true, true, true, true, true, true, true, true, true, true, true] rfl rfl (any_of HT_.out (by kernel_rfl)) (fun _ _ _ h => h) (Or.inl ⟨by rfl, ?_⟩) ?_ ?_
        rotate_left
        · intro w'
          go_simp
          with_reducible rfl
        rotate_left
        · simp only [Act.put, List.setIfInBounds_toArray, List.set_cons_zero, List.set_cons_succ, i64_w, i32_w]
          rfl
        refine done_ (done_of HT_.out (by kernel_rfl)) ?_
        try go_wp2
        go_loopg [13, 14, 36] k (fun kq v13 v14 v36 w' => ∃ (x13_1 : List ByteArray) (x14_1 : Int) (x36_1 : Int), v14 = .int .i64 x14_1 ∧ v36 = .int .i64 x36_1 ∧ Aside0 (marks_Merge.l0 kq a0 l2 l3 l4 x13_1 x14_1 t111 (t111.length : Int) x36_1 a1_0 a1_1 a1_2 = some (r1, r2)) ∧ Aside0 (kq ≤ k) ∧ Aside0 (Kd.V Kd.string 9 w' w.heap.size (fun k_ => ((P2_ k_ ∨ P3_ k_ ∨ P4_ k_) ∨ w.heap.size ≤ k_) ∧ some k_ ≠ (v13 : Value).ownBlock ∧ some k_ ≠ ((.slice Ao19 t111.length co19) : Value).ownBlock ∧ k_ ≠ gb101) (.slice A2 l2.length c2) l2) ∧ Aside0 (Kd.V Kd.string 9 w' w.heap.size (fun k_ => ((P2_ k_ ∨ P3_ k_ ∨ P4_ k_) ∨ w.heap.size ≤ k_) ∧ some k_ ≠ (v13 : Value).ownBlock ∧ some k_ ≠ ((.slice Ao19 t111.length co19) : Value).ownBlock ∧ k_ ≠ gb101) (.slice A3 l3.length c3) l3) ∧ Aside0 (Kd.V Kd.string 9 w' w.heap.size (fun k_ => ((P2_ k_ ∨ P3_ k_ ∨ P4_ k_) ∨ w.heap.size ≤ k_) ∧ some k_ ≠ (v13 : Value).ownBlock ∧ some k_ ≠ ((.slice Ao19 t111.length co19) : Value).ownBlock ∧ k_ ≠ gb101) (.slice A4 l4.length c4) l4) ∧ Aside0 (Kd.R Kd.string 9 w' w.heap.size (fun k_ => (w.heap.size ≤ k_)) v13 x13_1) ∧ Aside0 (Kd.R k75 75 w' w.heap.size (fun k_ => (w.heap.size ≤ k_)) (.slice Ao19 t111.length co19) t111) ∧ Aside0 (w'.heap[gb101]? = some (.cells #[.string a1_0, .string a1_1, .string a1_2] 51 (0, 0))) ∧ Aside0 (Below w.heap.size w w'))
        case atStart => exact ⟨(([] : List ByteArray)), (0), (0), (by first | rfl | (simp; done) | (simp [*]; done)), (by first | rfl | (simp; done) | (simp [*]; done)), H', ⟨Nat.le_refl _⟩, ⟨by (with_reducible repeat (first | apply Kd.V_alloc | apply Kd.V_drewN | apply Kd.V_drew)); exact Kd.V_mono HO2.out (fun _ hk => ⟨hk.1.1.1.1, ⟨(by simp [Value.ownBlock]), ⟨hk.2, hk.1.1.1.2⟩⟩⟩)⟩, ⟨by (with_reducible repeat (first | apply Kd.V_alloc | apply Kd.V_drewN | apply Kd.V_drew)); exact Kd.V_mono HO3.out (fun _ hk => ⟨hk.1.1.1.1, ⟨(by simp [Value.ownBlock]), ⟨hk.2, hk.1.1.1.2⟩⟩⟩)⟩, ⟨by (with_reducible repeat (first | apply Kd.V_alloc | apply Kd.V_drewN | apply Kd.V_drew)); exact Kd.V_mono HO4.out (fun _ hk => ⟨hk.1.1.1.1, ⟨(by simp [Value.ownBlock]), ⟨hk.2, hk.1.1.1.2⟩⟩⟩)⟩, ⟨by first | exact Kd.R_nil _ _ _ _ _ | exact Kd.N_nil _ _ _ _ _ | exact Kd.V_nil _ _ _ _ _ | exact Kd.Q_nil _ _ _ _ _ | exact Kd.S_nil _ _ _ _ _⟩, ⟨by (with_reducible repeat (first | apply Kd.R_alloc | apply Kd.R_drewN | apply Kd.R_drew)); exact Kd.R_mono HO113.out (fun _ hk => hk.1)⟩, ⟨by (with_reducible repeat (first | refine blk_drewN ?_ _ | refine blk_drew ?_ | refine blk_alloc ?_ _)); exact BK101.out⟩, ⟨by repeat (first | (with_reducible first | exact HB.out | apply below_alloc | apply pw_below_drewN | apply below_drew1 | refine below_set ?_ GE101.out) | exact HB.out)⟩⟩
        case round =>
          clear H'
          try clear c1
          try clear p1
          try clear q1
          try clear hx1
          try clear qi1
          try clear c2
          try clear p2
          try clear c3
          try clear c4
          try clear c5
          try clear c6
          try clear c7
          try clear c7b0
          try clear c7b1
          try clear c8
          try clear c8b0
          try clear c8b1
          try clear c9
          try clear c9b0
          try clear c9b1
          try clear c10
          try clear p10
          try clear q10
          try clear hx10
          try clear qi10
          try clear c11
          try clear p11
          try clear q11
          try clear hx11
          try clear qi11
          try clear hx108_0
          try clear hx109_0
          try clear hx110_0
          try clear p108
          try clear p109
          try clear p110
          try clear q108
          try clear q109
          try clear q110
          obtain ⟨x13_1, x14_1, x36_1, rfl, rfl, HA, HK1, HO_2, HO_3, HO_4, HO_13, HO_34, BK101, HB⟩ := hrel
          cases gk with
          | zero => exact absurd HA.out (by simp [marks_Merge.l0])
          | succ k1 =>
            have H := HA.out
            clear HA
            simp only [marks_Merge.l0] at H
            by_cases c20 : x36_1 < (t111.length : Int)
            · rw [if_pos c20] at H
              have c20b0 : decide (x36_1 < (t111.length : Int)) = true := decide_eq_true c20
              clear c20
              by_cases c21 : 0 ≤ x36_1
              · rw [if_pos c21] at H
                have c21b0 : decide (0 ≤ x36_1) = true := decide_eq_true c21
                clear c21
                by_cases c22 : x36_1 < (t111.length : Int)
                · rw [if_pos c22] at H
                  have c22b0 : decide (x36_1 < (t111.length : Int)) = true := decide_eq_true c22
                  clear c22
                  by_cases c23 : 0 ≤ ((rd_T75 t111 x36_1).f0.f0)
                  · rw [if_pos c23] at H
                    have c23b0 := eq_true c23
                    have c23b1 : decide (0 ≤ ((rd_T75 t111 x36_1).f0.f0)) = true := decide_eq_true c23
                    clear c23
                    by_cases c24 : ((rd_T75 t111 x36_1).f0.f0) ≤ ((rd_T75 t111 x36_1).f0.f1)
                    · rw [if_pos c24] at H
                      have c24b0 := eq_true c24
                      have c24b1 : decide (((rd_T75 t111 x36_1).f0.f0) ≤ ((rd_T75 t111 x36_1).f0.f1)) = true := decide_eq_true c24
                      clear c24
                      by_cases c25 : ((rd_T75 t111 x36_1).f0.f1) ≤ (l2.length : Int)
                      · rw [if_pos c25] at H
                        have c25b0 := eq_true c25
                        have c25b1 : decide (((rd_T75 t111 x36_1).f0.f1) ≤ (l2.length : Int)) = true := decide_eq_true c25
                        clear c25
                        obtain ⟨y116, hy116⟩ : ∃ y_ : List ByteArray, y_ = ((l2.take (((rd_T75 t111 x36_1).f0.f1) : Int).toNat).drop (((rd_T75 t111 x36_1).f0.f0) : Int).toNat) := ⟨_, rfl⟩
                        replace H : (if 0 ≤ ((rd_T75 t111 x36_1).f1.f0) then (if ((rd_T75 t111 x36_1).f1.f0) ≤ ((rd_T75 t111 x36_1).f1.f1) then (if ((rd_T75 t111 x36_1).f1.f1) ≤ (l3.length : Int) then ((some ((l3.take (((rd_T75 t111 x36_1).f1.f1) : Int).toNat).drop (((rd_T75 t111 x36_1).f1.f0) : Int).toNat : List ByteArray)).bind fun y121 => (if 0 ≤ ((rd_T75 t111 x36_1).f2.f0) then (if ((rd_T75 t111 x36_1).f2.f0) ≤ ((rd_T75 t111 x36_1).f2.f1) then (if ((rd_T75 t111 x36_1).f2.f1) ≤ (l4.length : Int) then ((some ((l4.take (((rd_T75 t111 x36_1).f2.f1) : Int).toNat).drop (((rd_T75 t111 x36_1).f2.f0) : Int).toNat : List ByteArray)).bind fun y126 => (if ((rd_T75 t111 x36_1).f3) = 1 then (marks_Merge.j1 k1 a0 l2 l3 l4 x13_1 x14_1 y116 y121 y126 t111 (t111.length : Int) x36_1 ((rd_T75 t111 x36_1).f3) (((rd_T75 t111 x36_1).f3) == 1) a1_0 a1_1 a1_2) else (marks_Merge.j1 k1 a0 l2 l3 l4 x13_1 x14_1 y116 y121 y126 t111 (t111.length : Int) x36_1 ((rd_T75 t111 x36_1).f3) (((rd_T75 t111 x36_1).f3) == 3) a1_0 a1_1 a1_2))) else (none)) else (none)) else (none))) else (none)) else (none)) else (none)) = some (r1, r2) := by first | (rw [hy116]; with_reducible exact H) | (have H2_ := (Option.bind_some _ _).symm.trans H; rw [hy116]; with_reducible exact H2_) | (have H2_ := (Option.bind_some _ _).symm.trans H; with_reducible exact H2_) | with_reducible exact H | (rw [hy116]; exact H) | exact H
                        have Ny116 := Aside0.mk hy116
                        clear hy116
                        by_cases c26 : 0 ≤ ((rd_T75 t111 x36_1).f1.f0)
                        · rw [if_pos c26] at H
                          have c26b0 := eq_true c26
                          have c26b1 : decide (0 ≤ ((rd_T75 t111 x36_1).f1.f0)) = true := decide_eq_true c26
                          clear c26
                          by_cases c27 : ((rd_T75 t111 x36_1).f1.f0) ≤ ((rd_T75 t111 x36_1).f1.f1)
                          · rw [if_pos c27] at H
                            have c27b0 := eq_true c27
                            have c27b1 : decide (((rd_T75 t111 x36_1).f1.f0) ≤ ((rd_T75 t111 x36_1).f1.f1)) = true := decide_eq_true c27
                            clear c27
                            by_cases c28 : ((rd_T75 t111 x36_1).f1.f1) ≤ (l3.length : Int)
                            · rw [if_pos c28] at H
                              have c28b0 := eq_true c28
                              have c28b1 : decide (((rd_T75 t111 x36_1).f1.f1) ≤ (l3.length : Int)) = true := decide_eq_true c28
                              clear c28
                              obtain ⟨y121, hy121⟩ : ∃ y_ : List ByteArray, y_ = ((l3.take (((rd_T75 t111 x36_1).f1.f1) : Int).toNat).drop (((rd_T75 t111 x36_1).f1.f0) : Int).toNat) := ⟨_, rfl⟩
                              replace H : (if 0 ≤ ((rd_T75 t111 x36_1).f2.f0) then (if ((rd_T75 t111 x36_1).f2.f0) ≤ ((rd_T75 t111 x36_1).f2.f1) then (if ((rd_T75 t111 x36_1).f2.f1) ≤ (l4.length : Int) then ((some ((l4.take (((rd_T75 t111 x36_1).f2.f1) : Int).toNat).drop (((rd_T75 t111 x36_1).f2.f0) : Int).toNat : List ByteArray)).bind fun y126 => (if ((rd_T75 t111 x36_1).f3) = 1 then (marks_Merge.j1 k1 a0 l2 l3 l4 x13_1 x14_1 y116 y121 y126 t111 (t111.length : Int) x36_1 ((rd_T75 t111 x36_1).f3) (((rd_T75 t111 x36_1).f3) == 1) a1_0 a1_1 a1_2) else (marks_Merge.j1 k1 a0 l2 l3 l4 x13_1 x14_1 y116 y121 y126 t111 (t111.length : Int) x36_1 ((rd_T75 t111 x36_1).f3) (((rd_T75 t111 x36_1).f3) == 3) a1_0 a1_1 a1_2))) else (none)) else (none)) else (none)) = some (r1, r2) := by first | (rw [hy121]; with_reducible exact H) | (have H2_ := (Option.bind_some _ _).symm.trans H; rw [hy121]; with_reducible exact H2_) | (have H2_ := (Option.bind_some _ _).symm.trans H; with_reducible exact H2_) | with_reducible exact H | (rw [hy121]; exact H) | exact H
                              have Ny121 := Aside0.mk hy121
                              clear hy121
                              by_cases c29 : 0 ≤ ((rd_T75 t111 x36_1).f2.f0)
                              · rw [if_pos c29] at H
                                have c29b0 := eq_true c29
                                have c29b1 : decide (0 ≤ ((rd_T75 t111 x36_1).f2.f0)) = true := decide_eq_true c29
                                clear c29
                                by_cases c30 : ((rd_T75 t111 x36_1).f2.f0) ≤ ((rd_T75 t111 x36_1).f2.f1)
                                · rw [if_pos c30] at H
                                  have c30b0 := eq_true c30
                                  have c30b1 : decide (((rd_T75 t111 x36_1).f2.f0) ≤ ((rd_T75 t111 x36_1).f2.f1)) = true := decide_eq_true c30
                                  clear c30
                                  by_cases c31 : ((rd_T75 t111 x36_1).f2.f1) ≤ (l4.length : Int)
                                  · rw [if_pos c31] at H
                                    have c31b0 := eq_true c31
                                    have c31b1 : decide (((rd_T75 t111 x36_1).f2.f1) ≤ (l4.length : Int)) = true := decide_eq_true c31
                                    clear c31
                                    obtain ⟨y126, hy126⟩ : ∃ y_ : List ByteArray, y_ = ((l4.take (((rd_T75 t111 x36_1).f2.f1) : Int).toNat).drop (((rd_T75 t111 x36_1).f2.f0) : Int).toNat) := ⟨_, rfl⟩
                                    replace H : (if ((rd_T75 t111 x36_1).f3) = 1 then (marks_Merge.j1 k1 a0 l2 l3 l4 x13_1 x14_1 y116 y121 y126 t111 (t111.length : Int) x36_1 ((rd_T75 t111 x36_1).f3) (((rd_T75 t111 x36_1).f3) == 1) a1_0 a1_1 a1_2) else (marks_Merge.j1 k1 a0 l2 l3 l4 x13_1 x14_1 y116 y121 y126 t111 (t111.length : Int) x36_1 ((rd_T75 t111 x36_1).f3) (((rd_T75 t111 x36_1).f3) == 3) a1_0 a1_1 a1_2)) = some (r1, r2) := by first | (rw [hy126]; with_reducible exact H) | (have H2_ := (Option.bind_some _ _).symm.trans H; rw [hy126]; with_reducible exact H2_) | (have H2_ := (Option.bind_some _ _).symm.trans H; with_reducible exact H2_) | with_reducible exact H | (rw [hy126]; exact H) | exact H
                                    have Ny126 := Aside0.mk hy126
                                    clear hy126
                                    have HC32 := Aside0.mk H
                                    clear H
                                    have p114 : 0 ≤ (x36_1 : Int) := of_decide_eq_true (by first | (with_reducible assumption) | assumption)
                                    have q114 : x36_1 < (t111.length : Int) := of_decide_eq_true (by first | (with_reducible assumption) | assumption)
                                    obtain ⟨ad114, e114, hx114_0, hx114_1, hx114_2, hx114_3, hx114_4, hx114_5, hx114_6⟩ := at_T75 (Kd.R_reads' HO_34.out).2.2 x36_1 p114 q114
                                    cases e114
                                    replace p114 := eq_true p114
                                    replace q114 := eq_true q114
                                    try go_wp2_with (first | ((with_reducible refine gate_dst (N := 16) rfl ?_); refine box_event ?hg (N := 16) ?hd (cs := #[.int .i64 0, .int .i64 0, .int .i64 0, .int .i64 0, .int .i64 0, .int .i64 0, .int .i64 0]) (t := 75) ?hr ?_; (case hd => rfl); (case hg => rfl); (case hr => first | (go_simp; done) | (go_simp; rfl)); intro gb115 hg w33 hbox hb; have n0_ := Aside0.mk (Kd.V_below (Kd.V_elderB (by (with_reducible repeat (first | apply Kd.V_alloc | apply Kd.V_drewN | apply Kd.V_drew)); exact HO_2.out) gb115 (Nat.le_of_eq hg.symm)) hb); have n1_ := Aside0.mk (Kd.V_below (Kd.V_elderB (by (with_reducible repeat (first | apply Kd.V_alloc | apply Kd.V_drewN | apply Kd.V_drew)); exact HO_3.out) gb115 (Nat.le_of_eq hg.symm)) hb); have n2_ := Aside0.mk (Kd.V_below (Kd.V_elderB (by (with_reducible repeat (first | apply Kd.V_alloc | apply Kd.V_drewN | apply Kd.V_drew)); exact HO_4.out) gb115 (Nat.le_of_eq hg.symm)) hb); have n3_ := Aside0.mk (Kd.R_below (by (with_reducible repeat (first | apply Kd.R_alloc | apply Kd.R_drewN | apply Kd.R_drew)); exact HO_13.out) hb); have n4_ := Aside0.mk (Kd.R_below (Kd.R_elderB (by (with_reducible repeat (first | apply Kd.R_alloc | apply Kd.R_drewN | apply Kd.R_drew)); exact HO_34.out) gb115 (Nat.le_of_eq hg.symm)) hb); have n5_ := Aside0.mk (blk_below (g := gb101) (o := .cells #[.string a1_0, .string a1_1, .string a1_2] 51 (0, 0)) (by (with_reducible repeat (first | refine blk_drewN ?_ _ | refine blk_drew ?_ | refine blk_alloc ?_ _)); exact BK101.out) hb); have n6_ := Aside0.mk (below_step (by repeat (first | (with_reducible first | exact HB.out | apply below_alloc | apply pw_below_drewN | apply below_drew1 | refine below_set ?_ GE101.out) | exact HB.out)) hb); have n7_ := Aside0.mk (hbox); have n8_ := Aside0.mk ((by rw [hg]; exact (below_size (by repeat (first | (with_reducible first | exact HB.out | apply below_alloc | apply pw_below_drewN | apply below_drew1 | refine below_set ?_ GE101.out) | exact HB.out))) : w.heap.size ≤ gb115)); have n9_ := Aside0.mk ((by rw [hg]; exact (below_size (by repeat (first | (with_reducible first | exact HB.out | apply below_alloc | apply pw_below_drewN | apply below_drew1 | refine below_set ?_ GE101.out) | exact HB.out))) : w.heap.size ≤ gb115)); have n10_ := Aside0.mk ((by rw [hg]; exact Nat.ne_of_lt (blk_lt (g := gb101) (o := .cells #[.string a1_0, .string a1_1, .string a1_2] 51 (0, 0)) (by (with_reducible repeat (first | refine blk_drewN ?_ _ | refine blk_drew ?_ | refine blk_alloc ?_ _)); exact BK101.out)) : gb101 ≠ gb115)); have n11_ := Aside0.mk ((by rw [hg]; exact Nat.ne_of_gt (blk_lt (g := gb101) (o := .cells #[.string a1_0, .string a1_1, .string a1_2] 51 (0, 0)) (by (with_reducible repeat (first | refine blk_drewN ?_ _ | refine blk_drew ?_ | refine blk_alloc ?_ _)); exact BK101.out)) : gb115 ≠ gb101)); clear HO_2; clear HO_3; clear HO_4; clear HO_13; clear HO_34; clear BK101; clear HB; have HO_2 := n0_; have HO_3 := n1_; have HO_4 := n2_; have HO_13 := n3_; have HO_34 := n4_; have BK101 := n5_; have HB := n6_; have BK115 := n7_; have GW115 := n8_; have GE115 := n9_; have NB101_115 := n10_; have NB115_101 := n11_; clear n0_ n1_ n2_ n3_ n4_ n5_ n6_ n7_ n8_ n9_ n10_ n11_; clear hb hbox hg; have hnb34 := NB115_101.out; have hnc34 := NB101_115.out; have hcz35_0 : w33.cell? ⟨gb115, 0, none⟩ = some (.int .i64 0) := (blk_cell BK115.out 0).trans rfl; have hcz35_1 : w33.cell? ⟨gb115, 1, none⟩ = some (.int .i64 0) := (blk_cell BK115.out 1).trans rfl; have hcz35_2 : w33.cell? ⟨gb115, 2, none⟩ = some (.int .i64 0) := (blk_cell BK115.out 2).trans rfl; have hcz35_3 : w33.cell? ⟨gb115, 3, none⟩ = some (.int .i64 0) := (blk_cell BK115.out 3).trans rfl; have hcz35_4 : w33.cell? ⟨gb115, 4, none⟩ = some (.int .i64 0) := (blk_cell BK115.out 4).trans rfl; have hcz35_5 : w33.cell? ⟨gb115, 5, none⟩ = some (.int .i64 0) := (blk_cell BK115.out 5).trans rfl; have hcz35_6 : w33.cell? ⟨gb115, 6, none⟩ = some (.int .i64 0) := (blk_cell BK115.out 6).trans rfl; have hfz35_0 := blk_frozen BK115.out 0; have hfz35_1 := blk_frozen BK115.out 1; have hfz35_2 := blk_frozen BK115.out 2; have hfz35_3 := blk_frozen BK115.out 3; have hfz35_4 := blk_frozen BK115.out 4; have hfz35_5 := blk_frozen BK115.out 5; have hfz35_6 := blk_frozen BK115.out 6))
                                    have n0_ : Aside0 (Kd.V Kd.string 9 (((((((w33.setCell ⟨gb115, 0, none⟩ (.int .i64 ((rd_T75 t111 x36_1).f0.f0))).setCell ⟨gb115, 1, none⟩ (.int .i64 ((rd_T75 t111 x36_1).f0.f1))).setCell ⟨gb115, 2, none⟩ (.int .i64 ((rd_T75 t111 x36_1).f1.f0))).setCell ⟨gb115, 3, none⟩ (.int .i64 ((rd_T75 t111 x36_1).f1.f1))).setCell ⟨gb115, 4, none⟩ (.int .i64 ((rd_T75 t111 x36_1).f2.f0))).setCell ⟨gb115, 5, none⟩ (.int .i64 ((rd_T75 t111 x36_1).f2.f1))).setCell ⟨gb115, 6, none⟩ (.int .i64 ((rd_T75 t111 x36_1).f3))) w.heap.size (fun k_ => ((P2_ k_ ∨ P3_ k_ ∨ P4_ k_) ∨ w.heap.size ≤ k_) ∧ some k_ ≠ (u13 : Value).ownBlock ∧ some k_ ≠ (.slice (some ad114) t111.length co19 : Value).ownBlock ∧ k_ ≠ gb101 ∧ k_ ≠ gb115) (.slice A2 l2.length c2) l2) := ⟨by (with_reducible repeat (first | apply Kd.V_alloc | apply Kd.V_drewN | apply Kd.V_drew)); exact Kd.V_mono (Kd.V_far (p := ⟨gb115, 6, none⟩) (Kd.V_far (p := ⟨gb115, 5, none⟩) (Kd.V_far (p := ⟨gb115, 4, none⟩) (Kd.V_far (p := ⟨gb115, 3, none⟩) (Kd.V_far (p := ⟨gb115, 2, none⟩) (Kd.V_far (p := ⟨gb115, 1, none⟩) (Kd.V_far (p := ⟨gb115, 0, none⟩) (Kd.V_mono HO_2.out (fun k_ hk => (⟨hk, hk.2⟩ : _ ∧ k_ ≠ gb115))) (fun _ hk => hk.2) (.int .i64 ((rd_T75 t111 x36_1).f0.f0))) (fun _ hk => hk.2) (.int .i64 ((rd_T75 t111 x36_1).f0.f1))) (fun _ hk => hk.2) (.int .i64 ((rd_T75 t111 x36_1).f1.f0))) (fun _ hk => hk.2) (.int .i64 ((rd_T75 t111 x36_1).f1.f1))) (fun _ hk => hk.2) (.int .i64 ((rd_T75 t111 x36_1).f2.f0))) (fun _ hk => hk.2) (.int .i64 ((rd_T75 t111 x36_1).f2.f1))) (fun _ hk => hk.2) (.int .i64 ((rd_T75 t111 x36_1).f3))) (fun _ hk => ⟨hk.1.1.1, ⟨hk.1.1.2.1, ⟨hk.1.1.2.2.1, ⟨hk.1.1.2.2.2, hk.1.2⟩⟩⟩⟩)⟩
                                    have n1_ : Aside0 (Kd.V Kd.string 9 (((((((w33.setCell ⟨gb115, 0, none⟩ (.int .i64 ((rd_T75 t111 x36_1).f0.f0))).setCell ⟨gb115, 1, none⟩ (.int .i64 ((rd_T75 t111 x36_1).f0.f1))).setCell ⟨gb115, 2, none⟩ (.int .i64 ((rd_T75 t111 x36_1).f1.f0))).setCell ⟨gb115, 3, none⟩ (.int .i64 ((rd_T75 t111 x36_1).f1.f1))).setCell ⟨gb115, 4, none⟩ (.int .i64 ((rd_T75 t111 x36_1).f2.f0))).setCell ⟨gb115, 5, none⟩ (.int .i64 ((rd_T75 t111 x36_1).f2.f1))).setCell ⟨gb115, 6, none⟩ (.int .i64 ((rd_T75 t111 x36_1).f3))) w.heap.size (fun k_ => ((P2_ k_ ∨ P3_ k_ ∨ P4_ k_) ∨ w.heap.size ≤ k_) ∧ some k_ ≠ (u13 : Value).ownBlock ∧ some k_ ≠ (.slice (some ad114) t111.length co19 : Value).ownBlock ∧ k_ ≠ gb101 ∧ k_ ≠ gb115) (.slice A3 l3.length c3) l3) := ⟨by (with_reducible repeat (first | apply Kd.V_alloc | apply Kd.V_drewN | apply Kd.V_drew)); exact Kd.V_mono (Kd.V_far (p := ⟨gb115, 6, none⟩) (Kd.V_far (p := ⟨gb115, 5, none⟩) (Kd.V_far (p := ⟨gb115, 4, none⟩) (Kd.V_far (p := ⟨gb115, 3, none⟩) (Kd.V_far (p := ⟨gb115, 2, none⟩) (Kd.V_far (p := ⟨gb115, 1, none⟩) (Kd.V_far (p := ⟨gb115, 0, none⟩) (Kd.V_mono HO_3.out (fun k_ hk => (⟨hk, hk.2⟩ : _ ∧ k_ ≠ gb115))) (fun _ hk => hk.2) (.int .i64 ((rd_T75 t111 x36_1).f0.f0))) (fun _ hk => hk.2) (.int .i64 ((rd_T75 t111 x36_1).f0.f1))) (fun _ hk => hk.2) (.int .i64 ((rd_T75 t111 x36_1).f1.f0))) (fun _ hk => hk.2) (.int .i64 ((rd_T75 t111 x36_1).f1.f1))) (fun _ hk => hk.2) (.int .i64 ((rd_T75 t111 x36_1).f2.f0))) (fun _ hk => hk.2) (.int .i64 ((rd_T75 t111 x36_1).f2.f1))) (fun _ hk => hk.2) (.int .i64 ((rd_T75 t111 x36_1).f3))) (fun _ hk => ⟨hk.1.1.1, ⟨hk.1.1.2.1, ⟨hk.1.1.2.2.1, ⟨hk.1.1.2.2.2, hk.1.2⟩⟩⟩⟩)⟩
                                    have n2_ : Aside0 (Kd.V Kd.string 9 (((((((w33.setCell ⟨gb115, 0, none⟩ (.int .i64 ((rd_T75 t111 x36_1).f0.f0))).setCell ⟨gb115, 1, none⟩ (.int .i64 ((rd_T75 t111 x36_1).f0.f1))).setCell ⟨gb115, 2, none⟩ (.int .i64 ((rd_T75 t111 x36_1).f1.f0))).setCell ⟨gb115, 3, none⟩ (.int .i64 ((rd_T75 t111 x36_1).f1.f1))).setCell ⟨gb115, 4, none⟩ (.int .i64 ((rd_T75 t111 x36_1).f2.f0))).setCell ⟨gb115, 5, none⟩ (.int .i64 ((rd_T75 t111 x36_1).f2.f1))).setCell ⟨gb115, 6, none⟩ (.int .i64 ((rd_T75 t111 x36_1).f3))) w.heap.size (fun k_ => ((P2_ k_ ∨ P3_ k_ ∨ P4_ k_) ∨ w.heap.size ≤ k_) ∧ some k_ ≠ (u13 : Value).ownBlock ∧ some k_ ≠ (.slice (some ad114) t111.length co19 : Value).ownBlock ∧ k_ ≠ gb101 ∧ k_ ≠ gb115) (.slice A4 l4.length c4) l4) := ⟨by (with_reducible repeat (first | apply Kd.V_alloc | apply Kd.V_drewN | apply Kd.V_drew)); exact Kd.V_mono (Kd.V_far (p := ⟨gb115, 6, none⟩) (Kd.V_far (p := ⟨gb115, 5, none⟩) (Kd.V_far (p := ⟨gb115, 4, none⟩) (Kd.V_far (p := ⟨gb115, 3, none⟩) (Kd.V_far (p := ⟨gb115, 2, none⟩) (Kd.V_far (p := ⟨gb115, 1, none⟩) (Kd.V_far (p := ⟨gb115, 0, none⟩) (Kd.V_mono HO_4.out (fun k_ hk => (⟨hk, hk.2⟩ : _ ∧ k_ ≠ gb115))) (fun _ hk => hk.2) (.int .i64 ((rd_T75 t111 x36_1).f0.f0))) (fun _ hk => hk.2) (.int .i64 ((rd_T75 t111 x36_1).f0.f1))) (fun _ hk => hk.2) (.int .i64 ((rd_T75 t111 x36_1).f1.f0))) (fun _ hk => hk.2) (.int .i64 ((rd_T75 t111 x36_1).f1.f1))) (fun _ hk => hk.2) (.int .i64 ((rd_T75 t111 x36_1).f2.f0))) (fun _ hk => hk.2) (.int .i64 ((rd_T75 t111 x36_1).f2.f1))) (fun _ hk => hk.2) (.int .i64 ((rd_T75 t111 x36_1).f3))) (fun _ hk => ⟨hk.1.1.1, ⟨hk.1.1.2.1, ⟨hk.1.1.2.2.1, ⟨hk.1.1.2.2.2, hk.1.2⟩⟩⟩⟩)⟩
                                    have n3_ : Aside0 (Kd.R Kd.string 9 (((((((w33.setCell ⟨gb115, 0, none⟩ (.int .i64 ((rd_T75 t111 x36_1).f0.f0))).setCell ⟨gb115, 1, none⟩ (.int .i64 ((rd_T75 t111 x36_1).f0.f1))).setCell ⟨gb115, 2, none⟩ (.int .i64 ((rd_T75 t111 x36_1).f1.f0))).setCell ⟨gb115, 3, none⟩ (.int .i64 ((rd_T75 t111 x36_1).f1.f1))).setCell ⟨gb115, 4, none⟩ (.int .i64 ((rd_T75 t111 x36_1).f2.f0))).setCell ⟨gb115, 5, none⟩ (.int .i64 ((rd_T75 t111 x36_1).f2.f1))).setCell ⟨gb115, 6, none⟩ (.int .i64 ((rd_T75 t111 x36_1).f3))) w.heap.size (fun k_ => (w.heap.size ≤ k_)) u13 x13_1) := ⟨by (with_reducible repeat (first | apply Kd.R_alloc | apply Kd.R_drewN | apply Kd.R_drew)); exact Kd.R_mono (Kd.R_far (p := ⟨gb115, 6, none⟩) (Kd.R_far (p := ⟨gb115, 5, none⟩) (Kd.R_far (p := ⟨gb115, 4, none⟩) (Kd.R_far (p := ⟨gb115, 3, none⟩) (Kd.R_far (p := ⟨gb115, 2, none⟩) (Kd.R_far (p := ⟨gb115, 1, none⟩) (Kd.R_far (p := ⟨gb115, 0, none⟩) (Kd.R_types HO_13.out BK115.out (by decide)) (fun _ hk => hk.2) (.int .i64 ((rd_T75 t111 x36_1).f0.f0))) (fun _ hk => hk.2) (.int .i64 ((rd_T75 t111 x36_1).f0.f1))) (fun _ hk => hk.2) (.int .i64 ((rd_T75 t111 x36_1).f1.f0))) (fun _ hk => hk.2) (.int .i64 ((rd_T75 t111 x36_1).f1.f1))) (fun _ hk => hk.2) (.int .i64 ((rd_T75 t111 x36_1).f2.f0))) (fun _ hk => hk.2) (.int .i64 ((rd_T75 t111 x36_1).f2.f1))) (fun _ hk => hk.2) (.int .i64 ((rd_T75 t111 x36_1).f3))) (fun _ hk => hk.1)⟩
                                    have n4_ : Aside0 (Kd.R k75 75 (((((((w33.setCell ⟨gb115, 0, none⟩ (.int .i64 ((rd_T75 t111 x36_1).f0.f0))).setCell ⟨gb115, 1, none⟩ (.int .i64 ((rd_T75 t111 x36_1).f0.f1))).setCell ⟨gb115, 2, none⟩ (.int .i64 ((rd_T75 t111 x36_1).f1.f0))).setCell ⟨gb115, 3, none⟩ (.int .i64 ((rd_T75 t111 x36_1).f1.f1))).setCell ⟨gb115, 4, none⟩ (.int .i64 ((rd_T75 t111 x36_1).f2.f0))).setCell ⟨gb115, 5, none⟩ (.int .i64 ((rd_T75 t111 x36_1).f2.f1))).setCell ⟨gb115, 6, none⟩ (.int .i64 ((rd_T75 t111 x36_1).f3))) w.heap.size (fun k_ => (w.heap.size ≤ k_) ∧ k_ ≠ gb115) (.slice (some ad114) t111.length co19) t111) := ⟨by (with_reducible repeat (first | apply Kd.R_alloc | apply Kd.R_drewN | apply Kd.R_drew)); exact Kd.R_mono (Kd.R_far (p := ⟨gb115, 6, none⟩) (Kd.R_far (p := ⟨gb115, 5, none⟩) (Kd.R_far (p := ⟨gb115, 4, none⟩) (Kd.R_far (p := ⟨gb115, 3, none⟩) (Kd.R_far (p := ⟨gb115, 2, none⟩) (Kd.R_far (p := ⟨gb115, 1, none⟩) (Kd.R_far (p := ⟨gb115, 0, none⟩) (Kd.R_mono HO_34.out (fun k_ hk => (⟨hk, hk.2⟩ : _ ∧ k_ ≠ gb115))) (fun _ hk => hk.2) (.int .i64 ((rd_T75 t111 x36_1).f0.f0))) (fun _ hk => hk.2) (.int .i64 ((rd_T75 t111 x36_1).f0.f1))) (fun _ hk => hk.2) (.int .i64 ((rd_T75 t111 x36_1).f1.f0))) (fun _ hk => hk.2) (.int .i64 ((rd_T75 t111 x36_1).f1.f1))) (fun _ hk => hk.2) (.int .i64 ((rd_T75 t111 x36_1).f2.f0))) (fun _ hk => hk.2) (.int .i64 ((rd_T75 t111 x36_1).f2.f1))) (fun _ hk => hk.2) (.int .i64 ((rd_T75 t111 x36_1).f3))) (fun _ hk => ⟨hk.1.1, hk.1.2⟩)⟩
                                    have n5_ : Aside0 ((((((((w33.setCell ⟨gb115, 0, none⟩ (.int .i64 ((rd_T75 t111 x36_1).f0.f0))).setCell ⟨gb115, 1, none⟩ (.int .i64 ((rd_T75 t111 x36_1).f0.f1))).setCell ⟨gb115, 2, none⟩ (.int .i64 ((rd_T75 t111 x36_1).f1.f0))).setCell ⟨gb115, 3, none⟩ (.int .i64 ((rd_T75 t111 x36_1).f1.f1))).setCell ⟨gb115, 4, none⟩ (.int .i64 ((rd_T75 t111 x36_1).f2.f0))).setCell ⟨gb115, 5, none⟩ (.int .i64 ((rd_T75 t111 x36_1).f2.f1))).setCell ⟨gb115, 6, none⟩ (.int .i64 ((rd_T75 t111 x36_1).f3))).heap[gb101]? = some (.cells #[.string a1_0, .string a1_1, .string a1_2] 51 (0, 0))) := ⟨by (with_reducible repeat (first | refine blk_drewN ?_ _ | refine blk_drew ?_ | refine blk_alloc ?_ _)); refine blk_far ?_ NB101_115.out _; (with_reducible repeat (first | refine blk_drewN ?_ _ | refine blk_drew ?_ | refine blk_alloc ?_ _)); refine blk_far ?_ NB101_115.out _; (with_reducible repeat (first | refine blk_drewN ?_ _ | refine blk_drew ?_ | refine blk_alloc ?_ _)); refine blk_far ?_ NB101_115.out _; (with_reducible repeat (first | refine blk_drewN ?_ _ | refine blk_drew ?_ | refine blk_alloc ?_ _)); refine blk_far ?_ NB101_115.out _; (with_reducible repeat (first | refine blk_drewN ?_ _ | refine blk_drew ?_ | refine blk_alloc ?_ _)); refine blk_far ?_ NB101_115.out _; (with_reducible repeat (first | refine blk_drewN ?_ _ | refine blk_drew ?_ | refine blk_alloc ?_ _)); refine blk_far ?_ NB101_115.out _; (with_reducible repeat (first | refine blk_drewN ?_ _ | refine blk_drew ?_ | refine blk_alloc ?_ _)); refine blk_far ?_ NB101_115.out _; (with_reducible repeat (first | refine blk_drewN ?_ _ | refine blk_drew ?_ | refine blk_alloc ?_ _)); exact BK101.out⟩
                                    have n6_ : Aside0 ((((((((w33.setCell ⟨gb115, 0, none⟩ (.int .i64 ((rd_T75 t111 x36_1).f0.f0))).setCell ⟨gb115, 1, none⟩ (.int .i64 ((rd_T75 t111 x36_1).f0.f1))).setCell ⟨gb115, 2, none⟩ (.int .i64 ((rd_T75 t111 x36_1).f1.f0))).setCell ⟨gb115, 3, none⟩ (.int .i64 ((rd_T75 t111 x36_1).f1.f1))).setCell ⟨gb115, 4, none⟩ (.int .i64 ((rd_T75 t111 x36_1).f2.f0))).setCell ⟨gb115, 5, none⟩ (.int .i64 ((rd_T75 t111 x36_1).f2.f1))).setCell ⟨gb115, 6, none⟩ (.int .i64 ((rd_T75 t111 x36_1).f3))).heap[gb115]? = some (.cells #[.int .i64 ((rd_T75 t111 x36_1).f0.f0), .int .i64 ((rd_T75 t111 x36_1).f0.f1), .int .i64 ((rd_T75 t111 x36_1).f1.f0), .int .i64 ((rd_T75 t111 x36_1).f1.f1), .int .i64 ((rd_T75 t111 x36_1).f2.f0), .int .i64 ((rd_T75 t111 x36_1).f2.f1), .int .i64 ((rd_T75 t111 x36_1).f3)] 75 (0, 0))) := ⟨by (with_reducible repeat (first | refine blk_drewN ?_ _ | refine blk_drew ?_ | refine blk_alloc ?_ _)); refine blk_put (cs := #[.int .i64 ((rd_T75 t111 x36_1).f0.f0), .int .i64 ((rd_T75 t111 x36_1).f0.f1), .int .i64 ((rd_T75 t111 x36_1).f1.f0), .int .i64 ((rd_T75 t111 x36_1).f1.f1), .int .i64 ((rd_T75 t111 x36_1).f2.f0), .int .i64 ((rd_T75 t111 x36_1).f2.f1), .int .i64 0]) ?_ 6 _ rfl; (with_reducible repeat (first | refine blk_drewN ?_ _ | refine blk_drew ?_ | refine blk_alloc ?_ _)); refine blk_put (cs := #[.int .i64 ((rd_T75 t111 x36_1).f0.f0), .int .i64 ((rd_T75 t111 x36_1).f0.f1), .int .i64 ((rd_T75 t111 x36_1).f1.f0), .int .i64 ((rd_T75 t111 x36_1).f1.f1), .int .i64 ((rd_T75 t111 x36_1).f2.f0), .int .i64 0, .int .i64 0]) ?_ 5 _ rfl; (with_reducible repeat (first | refine blk_drewN ?_ _ | refine blk_drew ?_ | refine blk_alloc ?_ _)); refine blk_put (cs := #[.int .i64 ((rd_T75 t111 x36_1).f0.f0), .int .i64 ((rd_T75 t111 x36_1).f0.f1), .int .i64 ((rd_T75 t111 x36_1).f1.f0), .int .i64 ((rd_T75 t111 x36_1).f1.f1), .int .i64 0, .int .i64 0, .int .i64 0]) ?_ 4 _ rfl; (with_reducible repeat (first | refine blk_drewN ?_ _ | refine blk_drew ?_ | refine blk_alloc ?_ _)); refine blk_put (cs := #[.int .i64 ((rd_T75 t111 x36_1).f0.f0), .int .i64 ((rd_T75 t111 x36_1).f0.f1), .int .i64 ((rd_T75 t111 x36_1).f1.f0), .int .i64 0, .int .i64 0, .int .i64 0, .int .i64 0]) ?_ 3 _ rfl; (with_reducible repeat (first | refine blk_drewN ?_ _ | refine blk_drew ?_ | refine blk_alloc ?_ _)); refine blk_put (cs := #[.int .i64 ((rd_T75 t111 x36_1).f0.f0), .int .i64 ((rd_T75 t111 x36_1).f0.f1), .int .i64 0, .int .i64 0, .int .i64 0, .int .i64 0, .int .i64 0]) ?_ 2 _ rfl; (with_reducible repeat (first | refine blk_drewN ?_ _ | refine blk_drew ?_ | refine blk_alloc ?_ _)); refine blk_put (cs := #[.int .i64 ((rd_T75 t111 x36_1).f0.f0), .int .i64 0, .int .i64 0, .int .i64 0, .int .i64 0, .int .i64 0, .int .i64 0]) ?_ 1 _ rfl; (with_reducible repeat (first | refine blk_drewN ?_ _ | refine blk_drew ?_ | refine blk_alloc ?_ _)); refine blk_put (cs := #[.int .i64 0, .int .i64 0, .int .i64 0, .int .i64 0, .int .i64 0, .int .i64 0, .int .i64 0]) ?_ 0 _ rfl; (with_reducible repeat (first | refine blk_drewN ?_ _ | refine blk_drew ?_ | refine blk_alloc ?_ _)); exact BK115.out⟩
                                    have n7_ : Aside0 (Below w.heap.size w (((((((w33.setCell ⟨gb115, 0, none⟩ (.int .i64 ((rd_T75 t111 x36_1).f0.f0))).setCell ⟨gb115, 1, none⟩ (.int .i64 ((rd_T75 t111 x36_1).f0.f1))).setCell ⟨gb115, 2, none⟩ (.int .i64 ((rd_T75 t111 x36_1).f1.f0))).setCell ⟨gb115, 3, none⟩ (.int .i64 ((rd_T75 t111 x36_1).f1.f1))).setCell ⟨gb115, 4, none⟩ (.int .i64 ((rd_T75 t111 x36_1).f2.f0))).setCell ⟨gb115, 5, none⟩ (.int .i64 ((rd_T75 t111 x36_1).f2.f1))).setCell ⟨gb115, 6, none⟩ (.int .i64 ((rd_T75 t111 x36_1).f3)))) := ⟨by repeat (first | (with_reducible first | exact HB.out | apply below_alloc | apply pw_below_drewN | apply below_drew1 | refine below_set ?_ GE101.out | refine below_set ?_ GE115.out) | exact HB.out)⟩
                                    (try clear HO_2)
                                    (try clear HO_3)
                                    (try clear HO_4)
                                    (try clear HO_13)
                                    (try clear HO_34)
                                    (try clear BK101)
                                    (try clear BK115)
                                    (try clear HB)
                                    generalize (((((((w33.setCell ⟨gb115, 0, none⟩ (.int .i64 ((rd_T75 t111 x36_1).f0.f0))).setCell ⟨gb115, 1, none⟩ (.int .i64 ((rd_T75 t111 x36_1).f0.f1))).setCell ⟨gb115, 2, none⟩ (.int .i64 ((rd_T75 t111 x36_1).f1.f0))).setCell ⟨gb115, 3, none⟩ (.int .i64 ((rd_T75 t111 x36_1).f1.f1))).setCell ⟨gb115, 4, none⟩ (.int .i64 ((rd_T75 t111 x36_1).f2.f0))).setCell ⟨gb115, 5, none⟩ (.int .i64 ((rd_T75 t111 x36_1).f2.f1))).setCell ⟨gb115, 6, none⟩ (.int .i64 ((rd_T75 t111 x36_1).f3))) = w36 at n0_ n1_ n2_ n3_ n4_ n5_ n6_ n7_ ⊢
                                    have HO_2 := n0_
                                    have HO_3 := n1_
                                    have HO_4 := n2_
                                    have HO_13 := n3_
                                    have HO_34 := n4_
                                    have BK101 := n5_
                                    have BK115 := n6_
                                    have HB := n7_
                                    clear n0_ n1_ n2_ n3_ n4_ n5_ n6_ n7_
                                    have n0_ := Aside0.mk (Kd.V_drew HO_2.out)
                                    have n1_ := Aside0.mk (Kd.V_drew HO_3.out)
                                    have n2_ := Aside0.mk (Kd.V_drew HO_4.out)
                                    have n3_ := Aside0.mk (Kd.R_drew HO_13.out)
                                    have n4_ := Aside0.mk (Kd.R_drew HO_34.out)
                                    have n5_ := Aside0.mk (blk_drew BK101.out)
                                    have n6_ := Aside0.mk (blk_drew BK115.out)
                                    have n7_ := Aside0.mk (below_drew1 HB.out)
                                    clear HO_2
                                    clear HO_3
                                    clear HO_4
                                    clear HO_13
                                    clear HO_34
                                    clear BK101
                                    clear BK115
                                    clear HB
                                    have HO_2 := n0_
                                    have HO_3 := n1_
                                    have HO_4 := n2_
                                    have HO_13 := n3_
                                    have HO_34 := n4_
                                    have BK101 := n5_
                                    have BK115 := n6_
                                    have HB := n7_
                                    clear n0_ n1_ n2_ n3_ n4_ n5_ n6_ n7_
                                    have q38 : (((rd_T75 t111 x36_1).f0.f1) : Int) ≤ ((l2.length : Int) : Int) := of_decide_eq_true (by first | (with_reducible assumption) | assumption)
                                    obtain ⟨i038, hi038, _, hsz38, _⟩ := info_parts info9
                                    have hroom38 : l2.length ≤ c2 := (Kd.V_reads' HO_2.out).2.1
                                    have hC38 : Kd.F Kd.string _ _ A2 l2.length l2 := (Kd.V_at (base := w.heap.size) HO_2.out).2.2
                                    have ql38 : (((rd_T75 t111 x36_1).f0.f0) : Int) ≤ (((rd_T75 t111 x36_1).f0.f1) : Int) := of_decide_eq_true (by first | (with_reducible assumption) | assumption)
                                    have q038 : (0 : Int) ≤ (((rd_T75 t111 x36_1).f0.f0) : Int) := of_decide_eq_true (by first | (with_reducible assumption) | assumption)
                                    have hcut38 := cut_mid (P := Try.prog) 24 9 .i64 .i64 Try.underlying24 hi038 1 hsz38 A2 l2.length c2 ((rd_T75 t111 x36_1).f0.f0) ((rd_T75 t111 x36_1).f0.f1) q038 ql38 q38 hroom38
                                    have hr38 := Kd.F_mid (lo := (((rd_T75 t111 x36_1).f0.f0) : Int).toNat) (hi := (((rd_T75 t111 x36_1).f0.f1) : Int).toNat) (c := c2) hC38 (by omega) (by omega) hroom38
                                    obtain ⟨A38, hA38⟩ : ∃ A1, A1 = (if c2 = (((rd_T75 t111 x36_1).f0.f0) : Int).toNat then A2 else (A2 : Option Addr).map (·.add ((((rd_T75 t111 x36_1).f0.f0) : Int).toNat * 1))) := ⟨_, rfl⟩
                                    obtain ⟨c38, hc38⟩ : ∃ c1, c1 = c2 - (((rd_T75 t111 x36_1).f0.f0) : Int).toNat := ⟨_, rfl⟩
                                    have hy38 : y116.length = (((rd_T75 t111 x36_1).f0.f1) : Int).toNat - (((rd_T75 t111 x36_1).f0.f0) : Int).toNat := (by rw [Ny116.out, List.length_drop, List.length_take] <;> omega)
                                    rw [show ((l2).take (((rd_T75 t111 x36_1).f0.f1) : Int).toNat).drop (((rd_T75 t111 x36_1).f0.f0) : Int).toNat = y116 from Ny116.out.symm] at hr38
                                    replace hr38 : Kd.F Kd.string _ _ A38 y116.length y116 := (by rw [hA38]; exact hr38)
                                    rw [← hy38, ← hA38, ← hc38] at hcut38
                                    have HO120 := Aside0.mk (show Kd.V Kd.string 9 _ w.heap.size _ (.slice A38 y116.length c38) y116 from Kd.V_mk (by rw [hy38, hc38]; exact Nat.sub_le_sub_right (Nat.le_trans (by omega) hroom38) _) hr38)
                                    have HC120 := Aside0.mk (show y116.length ≤ c38 from by rw [hy38, hc38]; exact Nat.sub_le_sub_right (Nat.le_trans (by omega) hroom38) _)
                                    clear hr38 hC38 hroom38 hi038 hsz38 hc38
                                    have KY38 := Aside0.mk hy38
                                    have KA38 := Aside0.mk hA38
                                    clear hy38 hA38
                                    replace q38 := eq_true q38
                                    have q39 : (((rd_T75 t111 x36_1).f1.f1) : Int) ≤ ((l3.length : Int) : Int) := of_decide_eq_true (by first | (with_reducible assumption) | assumption)
                                    obtain ⟨i039, hi039, _, hsz39, _⟩ := info_parts info9
                                    have hroom39 : l3.length ≤ c3 := (Kd.V_reads' HO_3.out).2.1
                                    have hC39 : Kd.F Kd.string _ _ A3 l3.length l3 := (Kd.V_at (base := w.heap.size) HO_3.out).2.2
                                    have ql39 : (((rd_T75 t111 x36_1).f1.f0) : Int) ≤ (((rd_T75 t111 x36_1).f1.f1) : Int) := of_decide_eq_true (by first | (with_reducible assumption) | assumption)
                                    have q039 : (0 : Int) ≤ (((rd_T75 t111 x36_1).f1.f0) : Int) := of_decide_eq_true (by first | (with_reducible assumption) | assumption)
                                    have hcut39 := cut_mid (P := Try.prog) 24 9 .i64 .i64 Try.underlying24 hi039 1 hsz39 A3 l3.length c3 ((rd_T75 t111 x36_1).f1.f0) ((rd_T75 t111 x36_1).f1.f1) q039 ql39 q39 hroom39
                                    have hr39 := Kd.F_mid (lo := (((rd_T75 t111 x36_1).f1.f0) : Int).toNat) (hi := (((rd_T75 t111 x36_1).f1.f1) : Int).toNat) (c := c3) hC39 (by omega) (by omega) hroom39
                                    obtain ⟨A39, hA39⟩ : ∃ A1, A1 = (if c3 = (((rd_T75 t111 x36_1).f1.f0) : Int).toNat then A3 else (A3 : Option Addr).map (·.add ((((rd_T75 t111 x36_1).f1.f0) : Int).toNat * 1))) := ⟨_, rfl⟩
                                    obtain ⟨c39, hc39⟩ : ∃ c1, c1 = c3 - (((rd_T75 t111 x36_1).f1.f0) : Int).toNat := ⟨_, rfl⟩
                                    have hy39 : y121.length = (((rd_T75 t111 x36_1).f1.f1) : Int).toNat - (((rd_T75 t111 x36_1).f1.f0) : Int).toNat := (by rw [Ny121.out, List.length_drop, List.length_take] <;> omega)
                                    rw [show ((l3).take (((rd_T75 t111 x36_1).f1.f1) : Int).toNat).drop (((rd_T75 t111 x36_1).f1.f0) : Int).toNat = y121 from Ny121.out.symm] at hr39
                                    replace hr39 : Kd.F Kd.string _ _ A39 y121.length y121 := (by rw [hA39]; exact hr39)
                                    rw [← hy39, ← hA39, ← hc39] at hcut39
                                    have HO125 := Aside0.mk (show Kd.V Kd.string 9 _ w.heap.size _ (.slice A39 y121.length c39) y121 from Kd.V_mk (by rw [hy39, hc39]; exact Nat.sub_le_sub_right (Nat.le_trans (by omega) hroom39) _) hr39)
                                    have HC125 := Aside0.mk (show y121.length ≤ c39 from by rw [hy39, hc39]; exact Nat.sub_le_sub_right (Nat.le_trans (by omega) hroom39) _)
                                    clear hr39 hC39 hroom39 hi039 hsz39 hc39
                                    have KY39 := Aside0.mk hy39
                                    have KA39 := Aside0.mk hA39
                                    clear hy39 hA39
                                    replace q39 := eq_true q39
                                    have q40 : (((rd_T75 t111 x36_1).f2.f1) : Int) ≤ ((l4.length : Int) : Int) := of_decide_eq_true (by first | (with_reducible assumption) | assumption)
                                    obtain ⟨i040, hi040, _, hsz40, _⟩ := info_parts info9
                                    have hroom40 : l4.length ≤ c4 := (Kd.V_reads' HO_4.out).2.1
                                    have hC40 : Kd.F Kd.string _ _ A4 l4.length l4 := (Kd.V_at (base := w.heap.size) HO_4.out).2.2
                                    have ql40 : (((rd_T75 t111 x36_1).f2.f0) : Int) ≤ (((rd_T75 t111 x36_1).f2.f1) : Int) := of_decide_eq_true (by first | (with_reducible assumption) | assumption)
                                    have q040 : (0 : Int) ≤ (((rd_T75 t111 x36_1).f2.f0) : Int) := of_decide_eq_true (by first | (with_reducible assumption) | assumption)
                                    have hcut40 := cut_mid (P := Try.prog) 24 9 .i64 .i64 Try.underlying24 hi040 1 hsz40 A4 l4.length c4 ((rd_T75 t111 x36_1).f2.f0) ((rd_T75 t111 x36_1).f2.f1) q040 ql40 q40 hroom40
                                    have hr40 := Kd.F_mid (lo := (((rd_T75 t111 x36_1).f2.f0) : Int).toNat) (hi := (((rd_T75 t111 x36_1).f2.f1) : Int).toNat) (c := c4) hC40 (by omega) (by omega) hroom40
                                    obtain ⟨A40, hA40⟩ : ∃ A1, A1 = (if c4 = (((rd_T75 t111 x36_1).f2.f0) : Int).toNat then A4 else (A4 : Option Addr).map (·.add ((((rd_T75 t111 x36_1).f2.f0) : Int).toNat * 1))) := ⟨_, rfl⟩
                                    obtain ⟨c40, hc40⟩ : ∃ c1, c1 = c4 - (((rd_T75 t111 x36_1).f2.f0) : Int).toNat := ⟨_, rfl⟩
                                    have hy40 : y126.length = (((rd_T75 t111 x36_1).f2.f1) : Int).toNat - (((rd_T75 t111 x36_1).f2.f0) : Int).toNat := (by rw [Ny126.out, List.length_drop, List.length_take] <;> omega)
                                    rw [show ((l4).take (((rd_T75 t111 x36_1).f2.f1) : Int).toNat).drop (((rd_T75 t111 x36_1).f2.f0) : Int).toNat = y126 from Ny126.out.symm] at hr40
                                    replace hr40 : Kd.F Kd.string _ _ A40 y126.length y126 := (by rw [hA40]; exact hr40)
                                    rw [← hy40, ← hA40, ← hc40] at hcut40
                                    have HO130 := Aside0.mk (show Kd.V Kd.string 9 _ w.heap.size _ (.slice A40 y126.length c40) y126 from Kd.V_mk (by rw [hy40, hc40]; exact Nat.sub_le_sub_right (Nat.le_trans (by omega) hroom40) _) hr40)
                                    have HC130 := Aside0.mk (show y126.length ≤ c40 from by rw [hy40, hc40]; exact Nat.sub_le_sub_right (Nat.le_trans (by omega) hroom40) _)
                                    clear hr40 hC40 hroom40 hi040 hsz40 hc40
                                    have KY40 := Aside0.mk hy40
                                    have KA40 := Aside0.mk hA40
                                    clear hy40 hA40
                                    replace q40 := eq_true q40
                                    refine start_ (n := 27) (S := fun w' => w'.cell? ⟨gb115, 0, none⟩ = some (.int .i64 ((rd_T75 t111 x36_1).f0.f0)) ∧ w'.cell? ⟨gb115, 1, none⟩ = some (.int .i64 ((rd_T75 t111 x36_1).f0.f1)) ∧ w'.cell? ⟨gb115, 2, none⟩ = some (.int .i64 ((rd_T75 t111 x36_1).f1.f0)) ∧ w'.cell? ⟨gb115, 3, none⟩ = some (.int .i64 ((rd_T75 t111 x36_1).f1.f1)) ∧ w'.cell? ⟨gb115, 4, none⟩ = some (.int .i64 ((rd_T75 t111 x36_1).f2.f0)) ∧ w'.cell? ⟨gb115, 5, none⟩ = some (.int .i64 ((rd_T75 t111 x36_1).f2.f1)) ∧ w'.cell? ⟨gb115, 6, none⟩ = some (.int .i64 ((rd_T75 t111 x36_1).f3))) (ds := []) #[false, false, false, false, false, false, false, false, false, false, false, false, false, false, false, false, false, false, false, false, false, false, false, false, false, false, false] (by kernel_rfl) rfl rfl ⟨(blk_cell BK115.out 0).trans rfl, (blk_cell BK115.out 1).trans rfl, (blk_cell BK115.out 2).trans rfl, (blk_cell BK115.out 3).trans rfl, (blk_cell BK115.out 4).trans rfl, (blk_cell BK115.out 5).trans rfl, (blk_cell BK115.out 6).trans rfl⟩ (fun hHeld => ?_); refine with_tabW marks_Merge.tab7 marks_Merge.bits7 (fun HT_ HW_ => ?_)
                                    generalize w36.drew = w37 at HO_2 HO_3 HO_4 HO_13 HO_34 BK101 BK115 HB HO120 HO125 HO130 hHeld ⊢
                                    refine pure_ (i := 0) (N := some 40) (v := ?_) (a' := ?_) #[true, false, false, false, false, false, false, false, false, false, false, false, false, false, false, false, false, false, false, false, false, false, false, false, false, false, false] rfl rfl (any_of HT_.out (by kernel_rfl)) (fun _ _ _ h => h) (Or.inl ⟨by rfl, ?_⟩) ?_ ?_
                                    rotate_left
                                    · intro w'
                                      go_simp
                                      with_reducible rfl
                                    rotate_left
                                    · simp only [Act.put, List.setIfInBounds_toArray, List.set_cons_zero, List.set_cons_succ, i64_w, i32_w]
                                      rfl
                                    refine pure_ (i := 1) (N := some 41) (v := ?_) (a' := ?_) #[true, true, false, false, false, false, false, false, false, false, false, false, false, false, false, false, false, false, false, false, false, false, false, false, false, false, false] rfl rfl (any_of HT_.out (by kernel_rfl)) (fun _ _ _ h => h) (Or.inl ⟨by rfl, ?_⟩) ?_ ?_
                                    rotate_left
                                    · intro w'
                                      go_simp
                                      with_reducible rfl
                                    rotate_left
                                    · simp only [Act.put, List.setIfInBounds_toArray, List.set_cons_zero, List.set_cons_succ, i64_w, i32_w]
                                      rfl
                                    refine pure_ (i := 2) (N := some 42) (v := ?_) (a' := ?_) #[true, true, true, false, false, false, false, false, false, false, false, false, false, false, false, false, false, false, false, false, false, false, false, false, false, false, false] rfl rfl (any_of HT_.out (by kernel_rfl)) (fun _ _ _ h => h) (Or.inl ⟨by rfl, ?_⟩) ?_ ?_
                                    rotate_left
                                    · intro w'
                                      go_simp
                                      with_reducible rfl
                                    rotate_left
                                    · simp only [Act.put, List.setIfInBounds_toArray, List.set_cons_zero, List.set_cons_succ, i64_w, i32_w]
                                      rfl
                                    refine pure_ (i := 4) (N := some 44) (v := ?_) (a' := ?_) #[true, true, true, false, true, false, false, false, false, false, false, false, false, false, false, false, false, false, false, false, false, false, false, false, false, false, false] rfl rfl (any_of HT_.out (by kernel_rfl)) (fun _ _ _ h => h) (Or.inl ⟨by rfl, ?_⟩) ?_ ?_
                                    rotate_left
                                    · intro w'
                                      go_simp
                                      with_reducible rfl
                                    rotate_left
                                    · simp only [Act.put, List.setIfInBounds_toArray, List.set_cons_zero, List.set_cons_succ, i64_w, i32_w]
                                      rfl
                                    refine pure_ (i := 5) (N := some 45) (v := ?_) (a' := ?_) #[true, true, true, false, true, true, false, false, false, false, false, false, false, false, false, false, false, false, false, false, false, false, false, false, false, false, false] rfl rfl (any_of HT_.out (by kernel_rfl)) (fun _ _ _ h => h) (Or.inl ⟨by rfl, ?_⟩) ?_ ?_
                                    rotate_left
                                    · intro w'
                                      go_simp
                                      with_reducible rfl
                                    rotate_left
                                    · simp only [Act.put, List.setIfInBounds_toArray, List.set_cons_zero, List.set_cons_succ, i64_w, i32_w]
                                      rfl
                                    refine pure_ (i := 8) (N := some 48) (v := ?_) (a' := ?_) #[true, true, true, false, true, true, false, false, true, false, false, false, false, false, false, false, false, false, false, false, false, false, false, false, false, false, false] rfl rfl (any_of HT_.out (by kernel_rfl)) (fun _ _ _ h => h) (Or.inl ⟨by rfl, ?_⟩) ?_ ?_
                                    rotate_left
                                    · intro w'
                                      go_simp
                                      with_reducible rfl
                                    rotate_left
                                    · simp only [Act.put, List.setIfInBounds_toArray, List.set_cons_zero, List.set_cons_succ, i64_w, i32_w]
                                      rfl
                                    refine pure_ (i := 9) (N := some 49) (v := ?_) (a' := ?_) #[true, true, true, false, true, true, false, false, true, true, false, false, false, false, false, false, false, false, false, false, false, false, false, false, false, false, false] rfl rfl (any_of HT_.out (by kernel_rfl)) (fun _ _ _ h => h) (Or.inl ⟨by rfl, ?_⟩) ?_ ?_
                                    rotate_left
                                    · intro w'
                                      go_simp
                                      with_reducible rfl
                                    rotate_left
                                    · simp only [Act.put, List.setIfInBounds_toArray, List.set_cons_zero, List.set_cons_succ, i64_w, i32_w]
                                      rfl
                                    refine pure_ (i := 10) (N := some 50) (v := ?_) (a' := ?_) #[true, true, true, false, true, true, false, false, true, true, true, false, false, false, false, false, false, false, false, false, false, false, false, false, false, false, false] rfl rfl (any_of HT_.out (by kernel_rfl)) (fun _ _ _ h => h) (Or.inl ⟨by rfl, ?_⟩) ?_ ?_
                                    rotate_left
                                    · intro w'
                                      go_simp
                                      with_reducible rfl
                                    rotate_left
                                    · simp only [Act.put, List.setIfInBounds_toArray, List.set_cons_zero, List.set_cons_succ, i64_w, i32_w]
                                      rfl
                                    refine pure_ (i := 12) (N := some 52) (v := ?_) (a' := ?_) #[true, true, true, false, true, true, false, false, true, true, true, false, true, false, false, false, false, false, false, false, false, false, false, false, false, false, false] rfl rfl (any_of HT_.out (by kernel_rfl)) (fun _ _ _ h => h) (Or.inl ⟨by rfl, ?_⟩) ?_ ?_
                                    rotate_left
                                    · intro w'
                                      go_simp
                                      with_reducible rfl
                                    rotate_left
                                    · simp only [Act.put, List.setIfInBounds_toArray, List.set_cons_zero, List.set_cons_succ, i64_w, i32_w]
                                      rfl
                                    refine pure_ (i := 13) (N := some 53) (v := ?_) (a' := ?_) #[true, true, true, false, true, true, false, false, true, true, true, false, true, true, false, false, false, false, false, false, false, false, false, false, false, false, false] rfl rfl (any_of HT_.out (by kernel_rfl)) (fun _ _ _ h => h) (Or.inl ⟨by rfl, ?_⟩) ?_ ?_
                                    rotate_left
                                    · intro w'
                                      go_simp
                                      with_reducible rfl
                                    rotate_left
                                    · simp only [Act.put, List.setIfInBounds_toArray, List.set_cons_zero, List.set_cons_succ, i64_w, i32_w]
                                      rfl
                                    refine pure_ (i := 16) (N := some 56) (v := ?_) (a' := ?_) #[true, true, true, false, true, true, false, false, true, true, true, false, true, true, false, false, true, false, false, false, false, false, false, false, false, false, false] rfl rfl (any_of HT_.out (by kernel_rfl)) (fun _ _ _ h => h) (Or.inl ⟨by rfl, ?_⟩) ?_ ?_
                                    rotate_left
                                    · intro w'
                                      go_simp
                                      with_reducible rfl
                                    rotate_left
                                    · simp only [Act.put, List.setIfInBounds_toArray, List.set_cons_zero, List.set_cons_succ, i64_w, i32_w]
                                      rfl
                                    refine pure_ (i := 17) (N := some 57) (v := ?_) (a' := ?_) #[true, true, true, false, true, true, false, false, true, true, true, false, true, true, false, false, true, true, false, false, false, false, false, false, false, false, false] rfl rfl (any_of HT_.out (by kernel_rfl)) (fun _ _ _ h => h) (Or.inl ⟨by rfl, ?_⟩) ?_ ?_
                                    rotate_left
                                    · intro w'
                                      go_simp
                                      with_reducible rfl
                                    rotate_left
                                    · simp only [Act.put, List.setIfInBounds_toArray, List.set_cons_zero, List.set_cons_succ, i64_w, i32_w]
                                      rfl
                                    refine pure_ (i := 18) (N := some 58) (v := ?_) (a' := ?_) #[true, true, true, false, true, true, false, false, true, true, true, false, true, true, false, false, true, true, true, false, false, false, false, false, false, false, false] rfl rfl (any_of HT_.out (by kernel_rfl)) (fun _ _ _ h => h) (Or.inl ⟨by rfl, ?_⟩) ?_ ?_
                                    rotate_left
                                    · intro w'
                                      go_simp
                                      with_reducible rfl
                                    rotate_left
                                    · simp only [Act.put, List.setIfInBounds_toArray, List.set_cons_zero, List.set_cons_succ, i64_w, i32_w]
                                      rfl
                                    refine pure_ (i := 20) (N := some 60) (v := ?_) (a' := ?_) #[true, true, true, false, true, true, false, false, true, true, true, false, true, true, false, false, true, true, true, false, true, false, false, false, false, false, false] rfl rfl (any_of HT_.out (by kernel_rfl)) (fun _ _ _ h => h) (Or.inl ⟨by rfl, ?_⟩) ?_ ?_
                                    rotate_left
                                    · intro w'
                                      go_simp
                                      with_reducible rfl
                                    rotate_left
                                    · simp only [Act.put, List.setIfInBounds_toArray, List.set_cons_zero, List.set_cons_succ, i64_w, i32_w]
                                      rfl
                                    refine pure_ (i := 21) (N := some 61) (v := ?_) (a' := ?_) #[true, true, true, false, true, true, false, false, true, true, true, false, true, true, false, false, true, true, true, false, true, true, false, false, false, false, false] rfl rfl (any_of HT_.out (by kernel_rfl)) (fun _ _ _ h => h) (Or.inl ⟨by rfl, ?_⟩) ?_ ?_
                                    rotate_left
                                    · intro w'
                                      go_simp
                                      with_reducible rfl
                                    rotate_left
                                    · simp only [Act.put, List.setIfInBounds_toArray, List.set_cons_zero, List.set_cons_succ, i64_w, i32_w]
                                      rfl
                                    refine take_ (i := 3) (N := some 43) (v := ?_) (a' := ?_) #[true, true, true, true, true, true, false, false, true, true, true, false, true, true, false, false, true, true, true, false, true, true, false, false, false, false, false] rfl rfl (take_ofW HT_.out HW_.out (by kernel_rfl)) (fun _ _ _ h => h) (Or.inl ⟨by rfl, ?_⟩) hHeld ?_ ?_
                                    rotate_left
                                    · rintro w' ⟨s0, s1, s2, s3, s4, s5, s6⟩
                                      go_simp
                                      with_reducible rfl
                                    rotate_left
                                    · simp only [Act.put, List.setIfInBounds_toArray, List.set_cons_zero, List.set_cons_succ, i64_w, i32_w]
                                      rfl
                                    refine take_ (i := 6) (N := some 46) (v := ?_) (a' := ?_) #[true, true, true, true, true, true, true, false, true, true, true, false, true, true, false, false, true, true, true, false, true, true, false, false, false, false, false] rfl rfl (take_ofW HT_.out HW_.out (by kernel_rfl)) (fun _ _ _ h => h) (Or.inl ⟨by rfl, ?_⟩) hHeld ?_ ?_
                                    rotate_left
                                    · rintro w' ⟨s0, s1, s2, s3, s4, s5, s6⟩
                                      go_simp
                                      with_reducible rfl
                                    rotate_left
                                    · simp only [Act.put, List.setIfInBounds_toArray, List.set_cons_zero, List.set_cons_succ, i64_w, i32_w]
                                      rfl
                                    refine pure_ (i := 7) (N := some 47) (v := ?_) (a' := ?_) #[true, true, true, true, true, true, true, true, true, true, true, false, true, true, false, false, true, true, true, false, true, true, false, false, false, false, false] rfl rfl (any_of HT_.out (by kernel_rfl)) (fun _ _ _ h => h) (Or.inl ⟨by rfl, ?_⟩) ?_ ?_
                                    rotate_left
                                    · intro w'
                                      go_simp
                                      with_reducible rfl
                                    rotate_left
                                    · simp only [Act.put, List.setIfInBounds_toArray, List.set_cons_zero, List.set_cons_succ, i64_w, i32_w]
                                      rfl
                                    refine pure_ (i := 24) (N := some 17) (v := ?_) (a' := ?_) #[true, true, true, true, true, true, true, true, true, true, true, false, true, true, false, false, true, true, true, false, true, true, false, false, true, false, false] rfl rfl (any_of HT_.out (by kernel_rfl)) (fun _ _ _ h => h) (Or.inl ⟨by rfl, ?_⟩) ?_ ?_
                                    rotate_left
                                    · intro w'
                                      go_simp
                                      with_reducible rfl
                                    rotate_left
                                    · simp only [Act.put, List.setIfInBounds_toArray, List.set_cons_zero, List.set_cons_succ, i64_w, i32_w]
                                      rfl
                                    refine take_ (i := 11) (N := some 51) (v := ?_) (a' := ?_) #[true, true, true, true, true, true, true, true, true, true, true, true, true, true, false, false, true, true, true, false, true, true, false, false, true, false, false] rfl rfl (take_ofW HT_.out HW_.out (by kernel_rfl)) (fun _ _ _ h => h) (Or.inl ⟨by rfl, ?_⟩) hHeld ?_ ?_
                                    rotate_left
                                    · rintro w' ⟨s0, s1, s2, s3, s4, s5, s6⟩
                                      go_simp
                                      with_reducible rfl
                                    rotate_left
                                    · simp only [Act.put, List.setIfInBounds_toArray, List.set_cons_zero, List.set_cons_succ, i64_w, i32_w]
                                      rfl
                                    refine take_ (i := 14) (N := some 54) (v := ?_) (a' := ?_) #[true, true, true, true, true, true, true, true, true, true, true, true, true, true, true, false, true, true, true, false, true, true, false, false, true, false, false] rfl rfl (take_ofW HT_.out HW_.out (by kernel_rfl)) (fun _ _ _ h => h) (Or.inl ⟨by rfl, ?_⟩) hHeld ?_ ?_
                                    rotate_left
                                    · rintro w' ⟨s0, s1, s2, s3, s4, s5, s6⟩
                                      go_simp
                                      with_reducible rfl
                                    rotate_left
                                    · simp only [Act.put, List.setIfInBounds_toArray, List.set_cons_zero, List.set_cons_succ, i64_w, i32_w]
                                      rfl
                                    refine pure_ (i := 15) (N := some 55) (v := ?_) (a' := ?_) #[true, true, true, true, true, true, true, true, true, true, true, true, true, true, true, true, true, true, true, false, true, true, false, false, true, false, false] rfl rfl (any_of HT_.out (by kernel_rfl)) (fun _ _ _ h => h) (Or.inl ⟨by rfl, ?_⟩) ?_ ?_
                                    rotate_left
                                    · intro w'
                                      go_simp
                                      with_reducible rfl
                                    rotate_left
                                    · simp only [Act.put, List.setIfInBounds_toArray, List.set_cons_zero, List.set_cons_succ, i64_w, i32_w]
                                      rfl
                                    refine pure_ (i := 25) (N := some 18) (v := ?_) (a' := ?_) #[true, true, true, true, true, true, true, true, true, true, true, true, true, true, true, true, true, true, true, false, true, true, false, false, true, true, false] rfl rfl (any_of HT_.out (by kernel_rfl)) (fun _ _ _ h => h) (Or.inl ⟨by rfl, ?_⟩) ?_ ?_
                                    rotate_left
                                    · intro w'
                                      go_simp
                                      with_reducible rfl
                                    rotate_left
                                    · simp only [Act.put, List.setIfInBounds_toArray, List.set_cons_zero, List.set_cons_succ, i64_w, i32_w]
                                      rfl
                                    refine take_ (i := 19) (N := some 59) (v := ?_) (a' := ?_) #[true, true, true, true, true, true, true, true, true, true, true, true, true, true, true, true, true, true, true, true, true, true, false, false, true, true, false] rfl rfl (take_ofW HT_.out HW_.out (by kernel_rfl)) (fun _ _ _ h => h) (Or.inl ⟨by rfl, ?_⟩) hHeld ?_ ?_
                                    rotate_left
                                    · rintro w' ⟨s0, s1, s2, s3, s4, s5, s6⟩
                                      go_simp
                                      with_reducible rfl
                                    rotate_left
                                    · simp only [Act.put, List.setIfInBounds_toArray, List.set_cons_zero, List.set_cons_succ, i64_w, i32_w]
                                      rfl
                                    refine take_ (i := 22) (N := some 62) (v := ?_) (a' := ?_) #[true, true, true, true, true, true, true, true, true, true, true, true, true, true, true, true, true, true, true, true, true, true, true, false, true, true, false] rfl rfl (take_ofW HT_.out HW_.out (by kernel_rfl)) (fun _ _ _ h => h) (Or.inl ⟨by rfl, ?_⟩) hHeld ?_ ?_
                                    rotate_left
                                    · rintro w' ⟨s0, s1, s2, s3, s4, s5, s6⟩
                                      go_simp
                                      with_reducible rfl
                                    rotate_left
                                    · simp only [Act.put, List.setIfInBounds_toArray, List.set_cons_zero, List.set_cons_succ, i64_w, i32_w]
                                      rfl
                                    refine pure_ (i := 23) (N := some 63) (v := ?_) (a' := ?_) #[true, true, true, true, true, true, true, true, true, true, true, true, true, true, true, true, true, true, true, true, true, true, true, true, true, true, false] rfl rfl (any_of HT_.out (by kernel_rfl)) (fun _ _ _ h => h) (Or.inl ⟨by rfl, ?_⟩) ?_ ?_
                                    rotate_left
                                    · intro w'
                                      go_simp
                                      with_reducible rfl
                                    rotate_left
                                    · simp only [Act.put, List.setIfInBounds_toArray, List.set_cons_zero, List.set_cons_succ, i64_w, i32_w]
                                      rfl
                                    refine pure_ (i := 26) (N := some 19) (v := ?_) (a' := ?_) #[true, true, true, true, true, true, true, true, true, true, true, true, true, true, true, true, true, true, true, true, true, true, true, true, true, true, true] rfl rfl (any_of HT_.out (by kernel_rfl)) (fun _ _ _ h => h) (Or.inl ⟨by rfl, ?_⟩) ?_ ?_
                                    rotate_left
                                    · intro w'
                                      go_simp
                                      with_reducible rfl
                                    rotate_left
                                    · simp only [Act.put, List.setIfInBounds_toArray, List.set_cons_zero, List.set_cons_succ, i64_w, i32_w]
                                      rfl
                                    refine done_ (done_of HT_.out (by kernel_rfl)) ?_
                                    have hcz41_0 : w37.cell? ⟨gb115, 0, none⟩ = some (.int .i64 ((rd_T75 t111 x36_1).f0.f0)) := (blk_cell BK115.out 0).trans rfl
                                    have hcz41_1 : w37.cell? ⟨gb115, 1, none⟩ = some (.int .i64 ((rd_T75 t111 x36_1).f0.f1)) := (blk_cell BK115.out 1).trans rfl
                                    have hcz41_2 : w37.cell? ⟨gb115, 2, none⟩ = some (.int .i64 ((rd_T75 t111 x36_1).f1.f0)) := (blk_cell BK115.out 2).trans rfl
                                    have hcz41_3 : w37.cell? ⟨gb115, 3, none⟩ = some (.int .i64 ((rd_T75 t111 x36_1).f1.f1)) := (blk_cell BK115.out 3).trans rfl
                                    have hcz41_4 : w37.cell? ⟨gb115, 4, none⟩ = some (.int .i64 ((rd_T75 t111 x36_1).f2.f0)) := (blk_cell BK115.out 4).trans rfl
                                    have hcz41_5 : w37.cell? ⟨gb115, 5, none⟩ = some (.int .i64 ((rd_T75 t111 x36_1).f2.f1)) := (blk_cell BK115.out 5).trans rfl
                                    have hcz41_6 : w37.cell? ⟨gb115, 6, none⟩ = some (.int .i64 ((rd_T75 t111 x36_1).f3)) := (blk_cell BK115.out 6).trans rfl
                                    have hfz41_0 := blk_frozen BK115.out 0
                                    have hfz41_1 := blk_frozen BK115.out 1
                                    have hfz41_2 := blk_frozen BK115.out 2
                                    have hfz41_3 := blk_frozen BK115.out 3
                                    have hfz41_4 := blk_frozen BK115.out 4
                                    have hfz41_5 := blk_frozen BK115.out 5
                                    have hfz41_6 := blk_frozen BK115.out 6
                                    go_upto_if 69 with (fail)
                                    go_cut [69] (fun v69 wc => ∃ (kq : Nat) (x69_31 : Bool), v69 = .bool x69_31 ∧ Aside0 (marks_Merge.j1 kq a0 l2 l3 l4 x13_1 x14_1 y116 y121 y126 t111 (t111.length : Int) x36_1 ((rd_T75 t111 x36_1).f3) x69_31 a1_0 a1_1 a1_2 = some (r1, r2)) ∧ Aside0 (kq ≤ k1) ∧ Aside0 (Kd.V Kd.string 9 wc w.heap.size (fun k_ => ((P2_ k_ ∨ P3_ k_ ∨ P4_ k_) ∨ w.heap.size ≤ k_) ∧ some k_ ≠ (u13 : Value).ownBlock ∧ some k_ ≠ ((.slice (some ad114) t111.length co19) : Value).ownBlock ∧ k_ ≠ gb101 ∧ k_ ≠ gb115) (.slice A2 l2.length c2) l2) ∧ Aside0 (Kd.V Kd.string 9 wc w.heap.size (fun k_ => ((P2_ k_ ∨ P3_ k_ ∨ P4_ k_) ∨ w.heap.size ≤ k_) ∧ some k_ ≠ (u13 : Value).ownBlock ∧ some k_ ≠ ((.slice (some ad114) t111.length co19) : Value).ownBlock ∧ k_ ≠ gb101 ∧ k_ ≠ gb115) (.slice A3 l3.length c3) l3) ∧ Aside0 (Kd.V Kd.string 9 wc w.heap.size (fun k_ => ((P2_ k_ ∨ P3_ k_ ∨ P4_ k_) ∨ w.heap.size ≤ k_) ∧ some k_ ≠ (u13 : Value).ownBlock ∧ some k_ ≠ ((.slice (some ad114) t111.length co19) : Value).ownBlock ∧ k_ ≠ gb101 ∧ k_ ≠ gb115) (.slice A4 l4.length c4) l4) ∧ Aside0 (Kd.R Kd.string 9 wc w.heap.size (fun k_ => (w.heap.size ≤ k_)) u13 x13_1) ∧ Aside0 (Kd.V Kd.string 9 wc w.heap.size (fun k_ => ((P2_ k_ ∨ P3_ k_ ∨ P4_ k_) ∨ w.heap.size ≤ k_) ∧ some k_ ≠ (u13 : Value).ownBlock ∧ some k_ ≠ ((.slice (some ad114) t111.length co19) : Value).ownBlock ∧ k_ ≠ gb101 ∧ k_ ≠ gb115) (.slice A38 y116.length c38) y116) ∧ Aside0 (Kd.V Kd.string 9 wc w.heap.size (fun k_ => ((P2_ k_ ∨ P3_ k_ ∨ P4_ k_) ∨ w.heap.size ≤ k_) ∧ some k_ ≠ (u13 : Value).ownBlock ∧ some k_ ≠ ((.slice (some ad114) t111.length co19) : Value).ownBlock ∧ k_ ≠ gb101 ∧ k_ ≠ gb115) (.slice A39 y121.length c39) y121) ∧ Aside0 (Kd.V Kd.string 9 wc w.heap.size (fun k_ => ((P2_ k_ ∨ P3_ k_ ∨ P4_ k_) ∨ w.heap.size ≤ k_) ∧ some k_ ≠ (u13 : Value).ownBlock ∧ some k_ ≠ ((.slice (some ad114) t111.length co19) : Value).ownBlock ∧ k_ ≠ gb101 ∧ k_ ≠ gb115) (.slice A40 y126.length c40) y126) ∧ Aside0 (Kd.R k75 75 wc w.heap.size (fun k_ => (w.heap.size ≤ k_) ∧ k_ ≠ gb115) (.slice (some ad114) t111.length co19) t111) ∧ Aside0 (wc.heap[gb101]? = some (.cells #[.string a1_0, .string a1_1, .string a1_2] 51 (0, 0))) ∧ Aside0 (wc.heap[gb115]? = some (.cells #[.int .i64 ((rd_T75 t111 x36_1).f0.f0), .int .i64 ((rd_T75 t111 x36_1).f0.f1), .int .i64 ((rd_T75 t111 x36_1).f1.f0), .int .i64 ((rd_T75 t111 x36_1).f1.f1), .int .i64 ((rd_T75 t111 x36_1).f2.f0), .int .i64 ((rd_T75 t111 x36_1).f2.f1), .int .i64 ((rd_T75 t111 x36_1).f3)] 75 (0, 0))) ∧ Aside0 (Below w.heap.size w wc))
                                    case first =>
                                      have H := HC32.out
                                      clear HC32
                                      by_cases c42 : ((rd_T75 t111 x36_1).f3) = 1
                                      · rw [if_pos c42] at H
                                        have c42b0 : (((rd_T75 t111 x36_1).f3) == 1) = true := beq_iff_eq.mpr c42
                                        have c42b1 : (((rd_T75 t111 x36_1).f3) != 1) = false := bne_eq_false_iff_eq.mpr c42
                                        clear c42
                                        (first | rw [c42b0] | (simp only [i64_w, i32_w]; rw [c42b0]) | skip)
                                        have H' := Aside0.mk H
                                        clear H
                                        go_wp2
                                        go_meet
                                        case rel => exact ⟨_, ((((rd_T75 t111 x36_1).f3) == 1)), (by first | rfl | (simp; done) | (simp [*]; done)), H', ⟨by have := HK1.out; first | omega | exact Nat.le_refl _⟩, ⟨by (with_reducible repeat (first | apply Kd.V_alloc | apply Kd.V_drewN | apply Kd.V_drew)); exact HO_2.out⟩, ⟨by (with_reducible repeat (first | apply Kd.V_alloc | apply Kd.V_drewN | apply Kd.V_drew)); exact HO_3.out⟩, ⟨by (with_reducible repeat (first | apply Kd.V_alloc | apply Kd.V_drewN | apply Kd.V_drew)); exact HO_4.out⟩, ⟨by (with_reducible repeat (first | apply Kd.R_alloc | apply Kd.R_drewN | apply Kd.R_drew)); exact HO_13.out⟩, ⟨by (with_reducible repeat (first | apply Kd.V_alloc | apply Kd.V_drewN | apply Kd.V_drew)); exact HO120.out⟩, ⟨by (with_reducible repeat (first | apply Kd.V_alloc | apply Kd.V_drewN | apply Kd.V_drew)); exact HO125.out⟩, ⟨by (with_reducible repeat (first | apply Kd.V_alloc | apply Kd.V_drewN | apply Kd.V_drew)); exact HO130.out⟩, ⟨by (with_reducible repeat (first | apply Kd.R_alloc | apply Kd.R_drewN | apply Kd.R_drew)); exact HO_34.out⟩, ⟨by (with_reducible repeat (first | refine blk_drewN ?_ _ | refine blk_drew ?_ | refine blk_alloc ?_ _)); exact BK101.out⟩, ⟨by (with_reducible repeat (first | refine blk_drewN ?_ _ | refine blk_drew ?_ | refine blk_alloc ?_ _)); exact BK115.out⟩, ⟨by repeat (first | (with_reducible first | exact HB.out | apply below_alloc | apply pw_below_drewN | apply below_drew1 | refine below_set ?_ GE101.out | refine below_set ?_ GE115.out) | exact HB.out)⟩⟩
                                      · rw [if_neg c42] at H
                                        have c42b0 : (((rd_T75 t111 x36_1).f3) == 1) = false := beq_eq_false_iff_ne.mpr c42
                                        have c42b1 : (((rd_T75 t111 x36_1).f3) != 1) = true := bne_iff_ne.mpr c42
                                        (first | rw [c42b0] | (simp only [i64_w, i32_w]; rw [c42b0]) | skip)
                                        have H' := Aside0.mk H
                                        clear H
                                        go_wp2
                                        go_meet
                                        case rel => exact ⟨_, ((((rd_T75 t111 x36_1).f3) == 3)), (by first | rfl | (simp; done) | (simp [*]; done)), H', ⟨by have := HK1.out; first | omega | exact Nat.le_refl _⟩, ⟨by (with_reducible repeat (first | apply Kd.V_alloc | apply Kd.V_drewN | apply Kd.V_drew)); exact HO_2.out⟩, ⟨by (with_reducible repeat (first | apply Kd.V_alloc | apply Kd.V_drewN | apply Kd.V_drew)); exact HO_3.out⟩, ⟨by (with_reducible repeat (first | apply Kd.V_alloc | apply Kd.V_drewN | apply Kd.V_drew)); exact HO_4.out⟩, ⟨by (with_reducible repeat (first | apply Kd.R_alloc | apply Kd.R_drewN | apply Kd.R_drew)); exact HO_13.out⟩, ⟨by (with_reducible repeat (first | apply Kd.V_alloc | apply Kd.V_drewN | apply Kd.V_drew)); exact HO120.out⟩, ⟨by (with_reducible repeat (first | apply Kd.V_alloc | apply Kd.V_drewN | apply Kd.V_drew)); exact HO125.out⟩, ⟨by (with_reducible repeat (first | apply Kd.V_alloc | apply Kd.V_drewN | apply Kd.V_drew)); exact HO130.out⟩, ⟨by (with_reducible repeat (first | apply Kd.R_alloc | apply Kd.R_drewN | apply Kd.R_drew)); exact HO_34.out⟩, ⟨by (with_reducible repeat (first | refine blk_drewN ?_ _ | refine blk_drew ?_ | refine blk_alloc ?_ _)); exact BK101.out⟩, ⟨by (with_reducible repeat (first | refine blk_drewN ?_ _ | refine blk_drew ?_ | refine blk_alloc ?_ _)); exact BK115.out⟩, ⟨by repeat (first | (with_reducible first | exact HB.out | apply below_alloc | apply pw_below_drewN | apply below_drew1 | refine below_set ?_ GE101.out | refine below_set ?_ GE115.out) | exact HB.out)⟩⟩
                                    case rest =>
                                      clear HC32
                                      try clear c1
                                      try clear p1
                                      try clear q1
                                      try clear hx1
                                      try clear qi1
                                      try clear c2
                                      try clear p2
                                      try clear c3
                                      try clear q3
                                      try clear c4
                                      try clear q4
                                      try clear c5
                                      try clear c6
                                      try clear c7
                                      try clear c7b0
                                      try clear c7b1
                                      try clear c8
                                      try clear c8b0
                                      try clear c8b1
                                      try clear c9
                                      try clear c9b0
                                      try clear c9b1
                                      try clear c10
                                      try clear p10
                                      try clear q10
                                      try clear hx10
                                      try clear qi10
                                      try clear c11
                                      try clear p11
                                      try clear q11
                                      try clear hx11
                                      try clear qi11
                                      try clear c20
                                      try clear c20b0
                                      try clear c21
                                      try clear c21b0
                                      try clear c22
                                      try clear c22b0
                                      try clear c23
                                      try clear c23b0
                                      try clear c23b1
                                      try clear c24
                                      try clear c24b0
                                      try clear c24b1
                                      try clear c25
                                      try clear c25b0
                                      try clear c25b1
                                      try clear c26
                                      try clear c26b0
                                      try clear c26b1
                                      try clear c27
                                      try clear c27b0
                                      try clear c27b1
                                      try clear c28
                                      try clear c28b0
                                      try clear c28b1
                                      try clear c29
                                      try clear c29b0
                                      try clear c29b1
                                      try clear c30
                                      try clear c30b0
                                      try clear c30b1
                                      try clear c31
                                      try clear c31b0
                                      try clear c31b1
                                      try clear c34
                                      try clear c38
                                      try clear q38
                                      try clear c39
                                      try clear q39
                                      try clear c40
                                      try clear q40
                                      try clear c42
                                      try clear c42b0
                                      try clear c42b1
                                      try clear hcz35_0
                                      try clear hcz35_1
                                      try clear hcz35_2
                                      try clear hcz35_3
                                      try clear hcz35_4
                                      try clear hcz35_5
                                      try clear hcz35_6
                                      try clear hcz41_0
                                      try clear hcz41_1
                                      try clear hcz41_2
                                      try clear hcz41_3
                                      try clear hcz41_4
                                      try clear hcz41_5
                                      try clear hcz41_6
                                      try clear hfz35_0
                                      try clear hfz35_1
                                      try clear hfz35_2
                                      try clear hfz35_3
                                      try clear hfz35_4
                                      try clear hfz35_5
                                      try clear hfz35_6
                                      try clear hfz41_0
                                      try clear hfz41_1
                                      try clear hfz41_2
                                      try clear hfz41_3
                                      try clear hfz41_4
                                      try clear hfz41_5
                                      try clear hfz41_6
                                      try clear hx108_0
                                      try clear hx109_0
                                      try clear hx110_0
                                      try clear hx114_0
                                      try clear hx114_1
                                      try clear hx114_2
                                      try clear hx114_3
                                      try clear hx114_4
                                      try clear hx114_5
                                      try clear hx114_6
                                      try clear p1
                                      try clear p10
                                      try clear p108
                                      try clear p109
                                      try clear p11
                                      try clear p110
                                      try clear p114
                                      try clear p2
                                      try clear q038
                                      try clear q039
                                      try clear q040
                                      try clear q1
                                      try clear q10
                                      try clear q108
                                      try clear q109
                                      try clear q11
                                      try clear q110
                                      try clear q114
                                      try clear q38
                                      try clear q39
                                      try clear q40
                                      obtain ⟨kq, x69_31, rfl, HA, HJ31, HO_2, HO_3, HO_4, HO_13, HO_17, HO_18, HO_19, HO_34, BK101, BK115, HB⟩ := hcut
                                      cases kq with
                                      | zero => exact absurd HA.out (by simp [marks_Merge.j1])
                                      | succ kj31 =>
                                        have H := HA.out
                                        clear HA
                                        simp only [marks_Merge.j1] at H
                                        by_cases c43 : x69_31 = true
                                        · subst c43
                                          have H1 : (if x13_1.length + y126.length < 8796093022208 then (marks_Merge.l0 kj31 a0 l2 l3 l4 (x13_1 ++ y126) x14_1 t111 (t111.length : Int) (wrap64 (x36_1 + 1)) a1_0 a1_1 a1_2) else (none)) = some (r1, r2) := by rw [if_pos rfl] at H; exact H
                                          clear H
                                          have H := H1
                                          clear H1
                                          by_cases c44 : x13_1.length + y126.length < 8796093022208
                                          · rw [if_pos c44] at H
                                            have LMc44 := Aside0.mk c44
                                            clear c44
                                            obtain ⟨y131, hy131⟩ : ∃ y_ : List ByteArray, y_ = (x13_1 ++ y126) := ⟨_, rfl⟩
                                            replace H : (marks_Merge.l0 kj31 a0 l2 l3 l4 y131 x14_1 t111 (t111.length : Int) (wrap64 (x36_1 + 1)) a1_0 a1_1 a1_2) = some (r1, r2) := by first | (rw [hy131]; with_reducible exact H) | (have H2_ := (Option.bind_some _ _).symm.trans H; rw [hy131]; with_reducible exact H2_) | (have H2_ := (Option.bind_some _ _).symm.trans H; with_reducible exact H2_) | with_reducible exact H | (rw [hy131]; exact H) | exact H
                                            have Ny131 := Aside0.mk hy131
                                            clear hy131
                                            have H' := Aside0.mk H
                                            clear H
                                            go_wp2_with (first | ((with_reducible refine gate_builtin (b := .append) (xs := #[.tmp 72, .tmp 73]) rfl ?_); at_builtin; refine Kd.R_append_rows Kd.string (w0 := w) w.heap.size rfl (.tmp 72) (.tmp 73) 24 9 (.string ⟨#[]⟩) 16 rfl Try.underlying24 info9 rfl (by decide) (by omega) u13 x13_1 y126 _ _ _ (fun k_ => (w.heap.size ≤ k_)) (fun _ => False) rfl rfl ?aO ?aR (fun _ _ h => h) (fun _ h => h.elim) ?aF ?aB ?aS ?aL ?_; (case aR => repeat (first | exact (Kd.V_reads' HO_19.out).2.2 | (with_reducible refine Kd.C_alloc ?_ _) | (with_reducible refine Kd.C_drewN ?_ _) | (with_reducible refine Kd.C_drew ?_))); (case aB => exact (by repeat (first | (with_reducible first | exact HB.out | apply below_alloc | apply pw_below_drewN | apply below_drew1 | refine below_set ?_ GE101.out | refine below_set ?_ GE115.out) | exact HB.out))); (case aF => exact (fun k_ hk => (Nat.le_trans (below_size (by repeat (first | (with_reducible first | exact HB.out | apply below_alloc | apply pw_below_drewN | apply below_drew1 | refine below_set ?_ GE101.out | refine below_set ?_ GE115.out) | exact HB.out))) hk))); (case aO => exact (by (with_reducible repeat (first | apply Kd.R_alloc | apply Kd.R_drewN | apply Kd.R_drew)); exact HO_13.out)); (case aS => exact (below_size (by repeat (first | (with_reducible first | exact HB.out | apply below_alloc | apply pw_below_drewN | apply below_drew1 | refine below_set ?_ GE101.out | refine below_set ?_ GE115.out) | exact HB.out)))); (case aL => have := LMc44.out; omega); intro v132 w45 ho hb hg hat; rw [← Ny131.out] at ho; have n0_ := Aside0.mk (Kd.V_afterv (ok := (fun k_ => ((P2_ k_ ∨ P3_ k_ ∨ P4_ k_) ∨ w.heap.size ≤ k_) ∧ some k_ ≠ (.slice (some ad114) t111.length co19 : Value).ownBlock ∧ k_ ≠ gb101 ∧ k_ ≠ gb115)) (by (with_reducible repeat (first | apply Kd.V_alloc | apply Kd.V_drewN | apply Kd.V_drew)); exact Kd.V_mono HO_2.out (fun _ hk => ⟨⟨hk.1, ⟨hk.2.2.1, ⟨hk.2.2.2.1, hk.2.2.2.2⟩⟩⟩, hk.2.1⟩)) hg hat); have n1_ := Aside0.mk (Kd.V_afterv (ok := (fun k_ => ((P2_ k_ ∨ P3_ k_ ∨ P4_ k_) ∨ w.heap.size ≤ k_) ∧ some k_ ≠ (.slice (some ad114) t111.length co19 : Value).ownBlock ∧ k_ ≠ gb101 ∧ k_ ≠ gb115)) (by (with_reducible repeat (first | apply Kd.V_alloc | apply Kd.V_drewN | apply Kd.V_drew)); exact Kd.V_mono HO_3.out (fun _ hk => ⟨⟨hk.1, ⟨hk.2.2.1, ⟨hk.2.2.2.1, hk.2.2.2.2⟩⟩⟩, hk.2.1⟩)) hg hat); have n2_ := Aside0.mk (Kd.V_afterv (ok := (fun k_ => ((P2_ k_ ∨ P3_ k_ ∨ P4_ k_) ∨ w.heap.size ≤ k_) ∧ some k_ ≠ (.slice (some ad114) t111.length co19 : Value).ownBlock ∧ k_ ≠ gb101 ∧ k_ ≠ gb115)) (by (with_reducible repeat (first | apply Kd.V_alloc | apply Kd.V_drewN | apply Kd.V_drew)); exact Kd.V_mono HO_4.out (fun _ hk => ⟨⟨hk.1, ⟨hk.2.2.1, ⟨hk.2.2.2.1, hk.2.2.2.2⟩⟩⟩, hk.2.1⟩)) hg hat); have n3_ := Aside0.mk (Kd.V_afterv (ok := (fun k_ => ((P2_ k_ ∨ P3_ k_ ∨ P4_ k_) ∨ w.heap.size ≤ k_) ∧ some k_ ≠ (.slice (some ad114) t111.length co19 : Value).ownBlock ∧ k_ ≠ gb101 ∧ k_ ≠ gb115)) (by (with_reducible repeat (first | apply Kd.V_alloc | apply Kd.V_drewN | apply Kd.V_drew)); exact Kd.V_mono HO_17.out (fun _ hk => ⟨⟨hk.1, ⟨hk.2.2.1, ⟨hk.2.2.2.1, hk.2.2.2.2⟩⟩⟩, hk.2.1⟩)) hg hat); have n4_ := Aside0.mk (Kd.V_afterv (ok := (fun k_ => ((P2_ k_ ∨ P3_ k_ ∨ P4_ k_) ∨ w.heap.size ≤ k_) ∧ some k_ ≠ (.slice (some ad114) t111.length co19 : Value).ownBlock ∧ k_ ≠ gb101 ∧ k_ ≠ gb115)) (by (with_reducible repeat (first | apply Kd.V_alloc | apply Kd.V_drewN | apply Kd.V_drew)); exact Kd.V_mono HO_18.out (fun _ hk => ⟨⟨hk.1, ⟨hk.2.2.1, ⟨hk.2.2.2.1, hk.2.2.2.2⟩⟩⟩, hk.2.1⟩)) hg hat); have n5_ := Aside0.mk (Kd.V_afterv (ok := (fun k_ => ((P2_ k_ ∨ P3_ k_ ∨ P4_ k_) ∨ w.heap.size ≤ k_) ∧ some k_ ≠ (.slice (some ad114) t111.length co19 : Value).ownBlock ∧ k_ ≠ gb101 ∧ k_ ≠ gb115)) (by (with_reducible repeat (first | apply Kd.V_alloc | apply Kd.V_drewN | apply Kd.V_drew)); exact Kd.V_mono HO_19.out (fun _ hk => ⟨⟨hk.1, ⟨hk.2.2.1, ⟨hk.2.2.2.1, hk.2.2.2.2⟩⟩⟩, hk.2.1⟩)) hg hat); have n6_ := Aside0.mk (Kd.R_over' (by (with_reducible repeat (first | apply Kd.R_alloc | apply Kd.R_drewN | apply Kd.R_drew)); exact HO_34.out) (Kd.R_typed (by (with_reducible repeat (first | apply Kd.R_alloc | apply Kd.R_drewN | apply Kd.R_drew)); exact HO_13.out)) (by decide) hg); have n7_ := Aside0.mk (blk_grown (g := gb101) (o := .cells #[.string a1_0, .string a1_1, .string a1_2] 51 (0, 0)) (by (with_reducible repeat (first | refine blk_drewN ?_ _ | refine blk_drew ?_ | refine blk_alloc ?_ _)); exact BK101.out) hg (Kd.R_ne HO_13.out BK101.out (by decide))); have n8_ := Aside0.mk (blk_grown (g := gb115) (o := .cells #[.int .i64 ((rd_T75 t111 x36_1).f0.f0), .int .i64 ((rd_T75 t111 x36_1).f0.f1), .int .i64 ((rd_T75 t111 x36_1).f1.f0), .int .i64 ((rd_T75 t111 x36_1).f1.f1), .int .i64 ((rd_T75 t111 x36_1).f2.f0), .int .i64 ((rd_T75 t111 x36_1).f2.f1), .int .i64 ((rd_T75 t111 x36_1).f3)] 75 (0, 0)) (by (with_reducible repeat (first | refine blk_drewN ?_ _ | refine blk_drew ?_ | refine blk_alloc ?_ _)); exact BK115.out) hg (Kd.R_ne HO_13.out BK115.out (by decide))); have n9_ := Aside0.mk (hb); have n10_ := Aside0.mk (ho); clear HO_2; clear HO_3; clear HO_4; clear HO_17; clear HO_18; clear HO_19; clear HO_34; clear BK101; clear BK115; clear HB; clear HO_13; have HO_2 := n0_; have HO_3 := n1_; have HO_4 := n2_; have HO_17 := n3_; have HO_18 := n4_; have HO_19 := n5_; have HO_34 := n6_; have BK101 := n7_; have BK115 := n8_; have HB := n9_; have HO133 := n10_; clear n0_ n1_ n2_ n3_ n4_ n5_ n6_ n7_ n8_ n9_ n10_; clear ho hb hg hat))
                                            go_roundg kj31
                                            case measure => have := HK1.out; have := HJ31.out; omega
                                            case rel => exact ⟨(y131), (x14_1), (wrap64 (x36_1 + 1)), (by first | rfl | (simp; done) | (simp [*]; done)), (by first | rfl | (simp; done) | (simp [*]; done)), H', ⟨by have := HK1.out; have := HJ31.out; omega⟩, ⟨by (with_reducible repeat (first | apply Kd.V_alloc | apply Kd.V_drewN | apply Kd.V_drew)); exact Kd.V_mono HO_2.out (fun _ hk => ⟨hk.1.1, ⟨hk.2, ⟨hk.1.2.1, hk.1.2.2.1⟩⟩⟩)⟩, ⟨by (with_reducible repeat (first | apply Kd.V_alloc | apply Kd.V_drewN | apply Kd.V_drew)); exact Kd.V_mono HO_3.out (fun _ hk => ⟨hk.1.1, ⟨hk.2, ⟨hk.1.2.1, hk.1.2.2.1⟩⟩⟩)⟩, ⟨by (with_reducible repeat (first | apply Kd.V_alloc | apply Kd.V_drewN | apply Kd.V_drew)); exact Kd.V_mono HO_4.out (fun _ hk => ⟨hk.1.1, ⟨hk.2, ⟨hk.1.2.1, hk.1.2.2.1⟩⟩⟩)⟩, ⟨by (with_reducible repeat (first | apply Kd.R_alloc | apply Kd.R_drewN | apply Kd.R_drew)); exact HO133.out⟩, ⟨by (with_reducible repeat (first | apply Kd.R_alloc | apply Kd.R_drewN | apply Kd.R_drew)); exact Kd.R_mono HO_34.out (fun _ hk => hk.1)⟩, ⟨by (with_reducible repeat (first | refine blk_drewN ?_ _ | refine blk_drew ?_ | refine blk_alloc ?_ _)); exact BK101.out⟩, ⟨by repeat (first | (with_reducible first | exact HB.out | apply below_alloc | apply pw_below_drewN | apply below_drew1 | refine below_set ?_ GE101.out | refine below_set ?_ GE115.out) | exact HB.out)⟩⟩
                                          · rw [if_neg c44] at H
                                            exact absurd H (by simp)
                                        · replace c43 := Bool.eq_false_iff.mpr c43
                                          subst c43
                                          have H1 : (if ((rd_T75 t111 x36_1).f3) = 5 then ((marks_Region.f a0 a1_0 a1_1 a1_2 y121 y116 y126).bind fun t134 => (if x13_1.length + t134.length < 8796093022208 then (marks_Merge.l0 kj31 a0 l2 l3 l4 (x13_1 ++ t134) (wrap64 (x14_1 + 1)) t111 (t111.length : Int) (wrap64 (x36_1 + 1)) a1_0 a1_1 a1_2) else (none))) else (if x13_1.length + y121.length < 8796093022208 then (marks_Merge.l0 kj31 a0 l2 l3 l4 (x13_1 ++ y121) x14_1 t111 (t111.length : Int) (wrap64 (x36_1 + 1)) a1_0 a1_1 a1_2) else (none))) = some (r1, r2) := by rw [if_neg (show ¬ (false = true) by decide)] at H; exact H
                                          clear H
                                          have H := H1
                                          clear H1
                                          by_cases c46 : ((rd_T75 t111 x36_1).f3) = 5
                                          · rw [if_pos c46] at H
                                            have c46b0 : (((rd_T75 t111 x36_1).f3) == 5) = true := beq_iff_eq.mpr c46
                                            have c46b1 : (((rd_T75 t111 x36_1).f3) != 5) = false := bne_eq_false_iff_eq.mpr c46
                                            clear c46
                                            replace H := Option.bind_eq_some_iff.mp H
                                            obtain ⟨t134, A470, H⟩ := H
                                            replace H : (if x13_1.length + t134.length < 8796093022208 then (marks_Merge.l0 kj31 a0 l2 l3 l4 (x13_1 ++ t134) (wrap64 (x14_1 + 1)) t111 (t111.length : Int) (wrap64 (x36_1 + 1)) a1_0 a1_1 a1_2) else (none)) = some (r1, r2) := H
                                            have A47 := Aside0.mk A470
                                            clear A470
                                            by_cases c48 : x13_1.length + t134.length < 8796093022208
                                            · rw [if_pos c48] at H
                                              have LMc48 := Aside0.mk c48
                                              clear c48
                                              obtain ⟨y137, hy137⟩ : ∃ y_ : List ByteArray, y_ = (x13_1 ++ t134) := ⟨_, rfl⟩
                                              replace H : (marks_Merge.l0 kj31 a0 l2 l3 l4 y137 (wrap64 (x14_1 + 1)) t111 (t111.length : Int) (wrap64 (x36_1 + 1)) a1_0 a1_1 a1_2) = some (r1, r2) := by first | (rw [hy137]; with_reducible exact H) | (have H2_ := (Option.bind_some _ _).symm.trans H; rw [hy137]; with_reducible exact H2_) | (have H2_ := (Option.bind_some _ _).symm.trans H; with_reducible exact H2_) | with_reducible exact H | (rw [hy137]; exact H) | exact H
                                              have Ny137 := Aside0.mk hy137
                                              clear hy137
                                              have H' := Aside0.mk H
                                              clear H
                                              have hnb49 := NB101_115.out
                                              have hnc49 := NB115_101.out
                                              have hcz50_0 : wc.cell? ⟨gb101, 0, none⟩ = some (.string a1_0) := (blk_cell BK101.out 0).trans rfl
                                              have hcz50_1 : wc.cell? ⟨gb101, 1, none⟩ = some (.string a1_1) := (blk_cell BK101.out 1).trans rfl
                                              have hcz50_2 : wc.cell? ⟨gb101, 2, none⟩ = some (.string a1_2) := (blk_cell BK101.out 2).trans rfl
                                              have hfz50_0 := blk_frozen BK101.out 0
                                              have hfz50_1 := blk_frozen BK101.out 1
                                              have hfz50_2 := blk_frozen BK101.out 2
                                              go_wp2_with (first | ((with_reducible refine gate_callee (f := 62) rfl ?_); refine goesL_ (some 85) rfl rfl Try.func62 (by kernel_rfl) rfl #[.int .i64 a0, .agg #[.string a1_0, .string a1_1, .string a1_2], .slice A39 y121.length c39, .slice A38 y116.length c38, .slice A40 y126.length c40] rfl (by (try simp only [List.map_toArray, List.map_cons, List.map_nil]); first | done | rfl | (simp only [List.length_drop, List.length_take]; rfl)) ?_; (with_reducible refine (marks_Region.calls a0 a1_0 a1_1 a1_2 (fun k_ => (((P2_ k_ ∨ P3_ k_ ∨ P4_ k_) ∨ w.heap.size ≤ k_) ∧ (some k_ ≠ (u13 : Value).ownBlock ∧ (some k_ ≠ (.slice (some ad114) t111.length co19 : Value).ownBlock ∧ (k_ ≠ gb101 ∧ k_ ≠ gb115))))) _ _ y121 (fun k_ => (((P2_ k_ ∨ P3_ k_ ∨ P4_ k_) ∨ w.heap.size ≤ k_) ∧ (some k_ ≠ (u13 : Value).ownBlock ∧ (some k_ ≠ (.slice (some ad114) t111.length co19 : Value).ownBlock ∧ (k_ ≠ gb101 ∧ k_ ≠ gb115))))) _ _ y116 (fun k_ => (((P2_ k_ ∨ P3_ k_ ∨ P4_ k_) ∨ w.heap.size ≤ k_) ∧ (some k_ ≠ (u13 : Value).ownBlock ∧ (some k_ ≠ (.slice (some ad114) t111.length co19 : Value).ownBlock ∧ (k_ ≠ gb101 ∧ k_ ≠ gb115))))) _ _ y126 t134 _ ?side1 ?side2 ?side3 A47.out).mono ?_); (case side1 => exact HO_18.out); (case side2 => exact HO_17.out); (case side3 => exact HO_19.out); rintro e w51 ⟨v135, rfl, ho0, hb⟩; refine ⟨_, rfl, ?_⟩; have n0_ := Aside0.mk (Kd.V_elder' (by (with_reducible repeat (first | apply Kd.V_alloc | apply Kd.V_drewN | apply Kd.V_drew)); exact HO_2.out) (Kd.R_base ho0) hb); have n1_ := Aside0.mk (Kd.V_elder' (by (with_reducible repeat (first | apply Kd.V_alloc | apply Kd.V_drewN | apply Kd.V_drew)); exact HO_3.out) (Kd.R_base ho0) hb); have n2_ := Aside0.mk (Kd.V_elder' (by (with_reducible repeat (first | apply Kd.V_alloc | apply Kd.V_drewN | apply Kd.V_drew)); exact HO_4.out) (Kd.R_base ho0) hb); have n3_ := Aside0.mk (Kd.R_elder' (by (with_reducible repeat (first | apply Kd.R_alloc | apply Kd.R_drewN | apply Kd.R_drew)); exact HO_13.out) (Kd.R_base ho0) hb); have n4_ := Aside0.mk (Kd.V_elder' (by (with_reducible repeat (first | apply Kd.V_alloc | apply Kd.V_drewN | apply Kd.V_drew)); exact HO_17.out) (Kd.R_base ho0) hb); have n5_ := Aside0.mk (Kd.V_elder' (by (with_reducible repeat (first | apply Kd.V_alloc | apply Kd.V_drewN | apply Kd.V_drew)); exact HO_18.out) (Kd.R_base ho0) hb); have n6_ := Aside0.mk (Kd.V_elder' (by (with_reducible repeat (first | apply Kd.V_alloc | apply Kd.V_drewN | apply Kd.V_drew)); exact HO_19.out) (Kd.R_base ho0) hb); have n7_ := Aside0.mk (Kd.R_below (by (with_reducible repeat (first | apply Kd.R_alloc | apply Kd.R_drewN | apply Kd.R_drew)); exact HO_34.out) hb); have n8_ := Aside0.mk (Kd.R_lower (Kd.R_new' (Kd.R_newM (M := fun k_ => (w.heap.size ≤ k_)) (Kd.R_mono (ok' := fun k_ => True) ho0 (fun _ hk_ => trivial)) (below_size (by repeat (first | (with_reducible first | exact HB.out | apply below_alloc | apply pw_below_drewN | apply below_drew1 | refine below_set ?_ GE101.out | refine below_set ?_ GE115.out) | exact HB.out))) (fun k_ h_ => h_)) (Kd.R_lt (by (with_reducible repeat (first | apply Kd.R_alloc | apply Kd.R_drewN | apply Kd.R_drew)); exact HO_13.out))) (below_size (by repeat (first | (with_reducible first | exact HB.out | apply below_alloc | apply pw_below_drewN | apply below_drew1 | refine below_set ?_ GE101.out | refine below_set ?_ GE115.out) | exact HB.out)))); have n9_ := Aside0.mk (blk_below (g := gb101) (o := .cells #[.string a1_0, .string a1_1, .string a1_2] 51 (0, 0)) (by (with_reducible repeat (first | refine blk_drewN ?_ _ | refine blk_drew ?_ | refine blk_alloc ?_ _)); exact BK101.out) hb); have n10_ := Aside0.mk (blk_below (g := gb115) (o := .cells #[.int .i64 ((rd_T75 t111 x36_1).f0.f0), .int .i64 ((rd_T75 t111 x36_1).f0.f1), .int .i64 ((rd_T75 t111 x36_1).f1.f0), .int .i64 ((rd_T75 t111 x36_1).f1.f1), .int .i64 ((rd_T75 t111 x36_1).f2.f0), .int .i64 ((rd_T75 t111 x36_1).f2.f1), .int .i64 ((rd_T75 t111 x36_1).f3)] 75 (0, 0)) (by (with_reducible repeat (first | refine blk_drewN ?_ _ | refine blk_drew ?_ | refine blk_alloc ?_ _)); exact BK115.out) hb); have n11_ := Aside0.mk (below_step (by repeat (first | (with_reducible first | exact HB.out | apply below_alloc | apply pw_below_drewN | apply below_drew1 | refine below_set ?_ GE101.out | refine below_set ?_ GE115.out) | exact HB.out)) hb); clear HO_2; clear HO_3; clear HO_4; clear HO_13; clear HO_17; clear HO_18; clear HO_19; clear HO_34; clear BK101; clear BK115; clear HB; have HO_2 := n0_; have HO_3 := n1_; have HO_4 := n2_; have HO_13 := n3_; have HO_17 := n4_; have HO_18 := n5_; have HO_19 := n6_; have HO_34 := n7_; have HO136 := n8_; have BK101 := n9_; have BK115 := n10_; have HB := n11_; clear n0_ n1_ n2_ n3_ n4_ n5_ n6_ n7_ n8_ n9_ n10_ n11_; (try clear hb); (try clear hb2); (try clear hk); (try clear hi); (try clear ho0); obtain ⟨Ao53, co53, eo53⟩ := Kd.R_slice HO136.out; subst eo53) | ((with_reducible refine gate_builtin (b := .append) (xs := #[.tmp 79, .tmp 85]) rfl ?_); at_builtin; refine Kd.R_append_rows Kd.string (w0 := w) w.heap.size rfl (.tmp 79) (.tmp 85) 24 9 (.string ⟨#[]⟩) 16 rfl Try.underlying24 info9 rfl (by decide) (by omega) u13 x13_1 t134 _ _ _ (fun k_ => (w.heap.size ≤ k_) ∧ some k_ ≠ (.slice Ao53 t134.length co53 : Value).ownBlock) (fun _ => False) rfl rfl ?aO ?aR (fun _ _ h => h) (fun _ h => h.elim) ?aF ?aB ?aS ?aL ?_; (case aR => repeat (first | exact (Kd.R_reads' HO136.out).2.2 | (with_reducible refine Kd.C_alloc ?_ _) | (with_reducible refine Kd.C_drewN ?_ _) | (with_reducible refine Kd.C_drew ?_))); (case aB => exact (by repeat (first | (with_reducible first | exact HB.out | apply below_alloc | apply pw_below_drewN | apply below_drew1 | refine below_set ?_ GE101.out | refine below_set ?_ GE115.out) | exact HB.out))); (case aF => exact (fun k_ hk => ⟨(Nat.le_trans (below_size (by repeat (first | (with_reducible first | exact HB.out | apply below_alloc | apply pw_below_drewN | apply below_drew1 | refine below_set ?_ GE101.out | refine below_set ?_ GE115.out) | exact HB.out))) hk), Kd.fresh' (Kd.R_lt (by (with_reducible repeat (first | apply Kd.R_alloc | apply Kd.R_drewN | apply Kd.R_drew)); exact HO136.out)) k_ hk⟩)); (case aO => exact (by (with_reducible repeat (first | apply Kd.R_alloc | apply Kd.R_drewN | apply Kd.R_drew)); exact HO_13.out)); (case aS => exact (below_size (by repeat (first | (with_reducible first | exact HB.out | apply below_alloc | apply pw_below_drewN | apply below_drew1 | refine below_set ?_ GE101.out | refine below_set ?_ GE115.out) | exact HB.out)))); (case aL => have := LMc48.out; omega); intro v138 w52 ho hb hg hat; rw [← Ny137.out] at ho; have n0_ := Aside0.mk (Kd.V_afterv (ok := (fun k_ => ((P2_ k_ ∨ P3_ k_ ∨ P4_ k_) ∨ w.heap.size ≤ k_) ∧ some k_ ≠ (.slice (some ad114) t111.length co19 : Value).ownBlock ∧ some k_ ≠ (.slice Ao53 t134.length co53 : Value).ownBlock ∧ k_ ≠ gb101 ∧ k_ ≠ gb115)) (by (with_reducible repeat (first | apply Kd.V_alloc | apply Kd.V_drewN | apply Kd.V_drew)); exact Kd.V_mono HO_2.out (fun _ hk => ⟨⟨hk.1.1, ⟨hk.1.2.2.1, ⟨hk.2, ⟨hk.1.2.2.2.1, hk.1.2.2.2.2⟩⟩⟩⟩, hk.1.2.1⟩)) hg hat); have n1_ := Aside0.mk (Kd.V_afterv (ok := (fun k_ => ((P2_ k_ ∨ P3_ k_ ∨ P4_ k_) ∨ w.heap.size ≤ k_) ∧ some k_ ≠ (.slice (some ad114) t111.length co19 : Value).ownBlock ∧ some k_ ≠ (.slice Ao53 t134.length co53 : Value).ownBlock ∧ k_ ≠ gb101 ∧ k_ ≠ gb115)) (by (with_reducible repeat (first | apply Kd.V_alloc | apply Kd.V_drewN | apply Kd.V_drew)); exact Kd.V_mono HO_3.out (fun _ hk => ⟨⟨hk.1.1, ⟨hk.1.2.2.1, ⟨hk.2, ⟨hk.1.2.2.2.1, hk.1.2.2.2.2⟩⟩⟩⟩, hk.1.2.1⟩)) hg hat); have n2_ := Aside0.mk (Kd.V_afterv (ok := (fun k_ => ((P2_ k_ ∨ P3_ k_ ∨ P4_ k_) ∨ w.heap.size ≤ k_) ∧ some k_ ≠ (.slice (some ad114) t111.length co19 : Value).ownBlock ∧ some k_ ≠ (.slice Ao53 t134.length co53 : Value).ownBlock ∧ k_ ≠ gb101 ∧ k_ ≠ gb115)) (by (with_reducible repeat (first | apply Kd.V_alloc | apply Kd.V_drewN | apply Kd.V_drew)); exact Kd.V_mono HO_4.out (fun _ hk => ⟨⟨hk.1.1, ⟨hk.1.2.2.1, ⟨hk.2, ⟨hk.1.2.2.2.1, hk.1.2.2.2.2⟩⟩⟩⟩, hk.1.2.1⟩)) hg hat); have n3_ := Aside0.mk (Kd.V_afterv (ok := (fun k_ => ((P2_ k_ ∨ P3_ k_ ∨ P4_ k_) ∨ w.heap.size ≤ k_) ∧ some k_ ≠ (.slice (some ad114) t111.length co19 : Value).ownBlock ∧ some k_ ≠ (.slice Ao53 t134.length co53 : Value).ownBlock ∧ k_ ≠ gb101 ∧ k_ ≠ gb115)) (by (with_reducible repeat (first | apply Kd.V_alloc | apply Kd.V_drewN | apply Kd.V_drew)); exact Kd.V_mono HO_17.out (fun _ hk => ⟨⟨hk.1.1, ⟨hk.1.2.2.1, ⟨hk.2, ⟨hk.1.2.2.2.1, hk.1.2.2.2.2⟩⟩⟩⟩, hk.1.2.1⟩)) hg hat); have n4_ := Aside0.mk (Kd.V_afterv (ok := (fun k_ => ((P2_ k_ ∨ P3_ k_ ∨ P4_ k_) ∨ w.heap.size ≤ k_) ∧ some k_ ≠ (.slice (some ad114) t111.length co19 : Value).ownBlock ∧ some k_ ≠ (.slice Ao53 t134.length co53 : Value).ownBlock ∧ k_ ≠ gb101 ∧ k_ ≠ gb115)) (by (with_reducible repeat (first | apply Kd.V_alloc | apply Kd.V_drewN | apply Kd.V_drew)); exact Kd.V_mono HO_18.out (fun _ hk => ⟨⟨hk.1.1, ⟨hk.1.2.2.1, ⟨hk.2, ⟨hk.1.2.2.2.1, hk.1.2.2.2.2⟩⟩⟩⟩, hk.1.2.1⟩)) hg hat); have n5_ := Aside0.mk (Kd.V_afterv (ok := (fun k_ => ((P2_ k_ ∨ P3_ k_ ∨ P4_ k_) ∨ w.heap.size ≤ k_) ∧ some k_ ≠ (.slice (some ad114) t111.length co19 : Value).ownBlock ∧ some k_ ≠ (.slice Ao53 t134.length co53 : Value).ownBlock ∧ k_ ≠ gb101 ∧ k_ ≠ gb115)) (by (with_reducible repeat (first | apply Kd.V_alloc | apply Kd.V_drewN | apply Kd.V_drew)); exact Kd.V_mono HO_19.out (fun _ hk => ⟨⟨hk.1.1, ⟨hk.1.2.2.1, ⟨hk.2, ⟨hk.1.2.2.2.1, hk.1.2.2.2.2⟩⟩⟩⟩, hk.1.2.1⟩)) hg hat); have n6_ := Aside0.mk (Kd.R_over' (by (with_reducible repeat (first | apply Kd.R_alloc | apply Kd.R_drewN | apply Kd.R_drew)); exact HO_34.out) (Kd.R_typed (by (with_reducible repeat (first | apply Kd.R_alloc | apply Kd.R_drewN | apply Kd.R_drew)); exact HO_13.out)) (by decide) hg); have n7_ := Aside0.mk (blk_grown (g := gb101) (o := .cells #[.string a1_0, .string a1_1, .string a1_2] 51 (0, 0)) (by (with_reducible repeat (first | refine blk_drewN ?_ _ | refine blk_drew ?_ | refine blk_alloc ?_ _)); exact BK101.out) hg (Kd.R_ne HO_13.out BK101.out (by decide))); have n8_ := Aside0.mk (blk_grown (g := gb115) (o := .cells #[.int .i64 ((rd_T75 t111 x36_1).f0.f0), .int .i64 ((rd_T75 t111 x36_1).f0.f1), .int .i64 ((rd_T75 t111 x36_1).f1.f0), .int .i64 ((rd_T75 t111 x36_1).f1.f1), .int .i64 ((rd_T75 t111 x36_1).f2.f0), .int .i64 ((rd_T75 t111 x36_1).f2.f1), .int .i64 ((rd_T75 t111 x36_1).f3)] 75 (0, 0)) (by (with_reducible repeat (first | refine blk_drewN ?_ _ | refine blk_drew ?_ | refine blk_alloc ?_ _)); exact BK115.out) hg (Kd.R_ne HO_13.out BK115.out (by decide))); have n9_ := Aside0.mk (Kd.R_after (ok := (fun k_ => (w.heap.size ≤ k_))) (by (with_reducible repeat (first | apply Kd.R_alloc | apply Kd.R_drewN | apply Kd.R_drew)); exact Kd.R_mono HO136.out (fun _ hk => ⟨hk.1.1, hk.2⟩)) hg hat); have n10_ := Aside0.mk (hb); have n11_ := Aside0.mk (ho); clear HO_2; clear HO_3; clear HO_4; clear HO_17; clear HO_18; clear HO_19; clear HO_34; clear BK101; clear BK115; clear HO136; clear HB; clear HO_13; have HO_2 := n0_; have HO_3 := n1_; have HO_4 := n2_; have HO_17 := n3_; have HO_18 := n4_; have HO_19 := n5_; have HO_34 := n6_; have BK101 := n7_; have BK115 := n8_; have HO136 := n9_; have HB := n10_; have HO139 := n11_; clear n0_ n1_ n2_ n3_ n4_ n5_ n6_ n7_ n8_ n9_ n10_ n11_; clear ho hb hg hat))
                                              go_roundg kj31
                                              case measure => have := HK1.out; have := HJ31.out; omega
                                              case rel => exact ⟨(y137), (wrap64 (x14_1 + 1)), (wrap64 (x36_1 + 1)), (by first | rfl | (simp; done) | (simp [*]; done)), (by first | rfl | (simp; done) | (simp [*]; done)), H', ⟨by have := HK1.out; have := HJ31.out; omega⟩, ⟨by (with_reducible repeat (first | apply Kd.V_alloc | apply Kd.V_drewN | apply Kd.V_drew)); exact Kd.V_mono HO_2.out (fun _ hk => ⟨hk.1.1, ⟨hk.2, ⟨hk.1.2.1, hk.1.2.2.2.1⟩⟩⟩)⟩, ⟨by (with_reducible repeat (first | apply Kd.V_alloc | apply Kd.V_drewN | apply Kd.V_drew)); exact Kd.V_mono HO_3.out (fun _ hk => ⟨hk.1.1, ⟨hk.2, ⟨hk.1.2.1, hk.1.2.2.2.1⟩⟩⟩)⟩, ⟨by (with_reducible repeat (first | apply Kd.V_alloc | apply Kd.V_drewN | apply Kd.V_drew)); exact Kd.V_mono HO_4.out (fun _ hk => ⟨hk.1.1, ⟨hk.2, ⟨hk.1.2.1, hk.1.2.2.2.1⟩⟩⟩)⟩, ⟨by (with_reducible repeat (first | apply Kd.R_alloc | apply Kd.R_drewN | apply Kd.R_drew)); exact Kd.R_mono HO139.out (fun _ hk => hk.1)⟩, ⟨by (with_reducible repeat (first | apply Kd.R_alloc | apply Kd.R_drewN | apply Kd.R_drew)); exact Kd.R_mono HO_34.out (fun _ hk => hk.1)⟩, ⟨by (with_reducible repeat (first | refine blk_drewN ?_ _ | refine blk_drew ?_ | refine blk_alloc ?_ _)); exact BK101.out⟩, ⟨by repeat (first | (with_reducible first | exact HB.out | apply below_alloc | apply pw_below_drewN | apply below_drew1 | refine below_set ?_ GE101.out | refine below_set ?_ GE115.out) | exact HB.out)⟩⟩
                                            · rw [if_neg c48] at H
                                              exact absurd H (by simp)
                                          · rw [if_neg c46] at H
                                            have c46b0 : (((rd_T75 t111 x36_1).f3) == 5) = false := beq_eq_false_iff_ne.mpr c46
                                            have c46b1 : (((rd_T75 t111 x36_1).f3) != 5) = true := bne_iff_ne.mpr c46
                                            by_cases c54 : x13_1.length + y121.length < 8796093022208
                                            · rw [if_pos c54] at H
                                              have LMc54 := Aside0.mk c54
                                              clear c54
                                              obtain ⟨y140, hy140⟩ : ∃ y_ : List ByteArray, y_ = (x13_1 ++ y121) := ⟨_, rfl⟩
                                              replace H : (marks_Merge.l0 kj31 a0 l2 l3 l4 y140 x14_1 t111 (t111.length : Int) (wrap64 (x36_1 + 1)) a1_0 a1_1 a1_2) = some (r1, r2) := by first | (rw [hy140]; with_reducible exact H) | (have H2_ := (Option.bind_some _ _).symm.trans H; rw [hy140]; with_reducible exact H2_) | (have H2_ := (Option.bind_some _ _).symm.trans H; with_reducible exact H2_) | with_reducible exact H | (rw [hy140]; exact H) | exact H
                                              have Ny140 := Aside0.mk hy140
                                              clear hy140
                                              have H' := Aside0.mk H
                                              clear H
                                              go_wp2_with (first | ((with_reducible refine gate_builtin (b := .append) (xs := #[.tmp 66, .tmp 67]) rfl ?_); at_builtin; refine Kd.R_append_rows Kd.string (w0 := w) w.heap.size rfl (.tmp 66) (.tmp 67) 24 9 (.string ⟨#[]⟩) 16 rfl Try.underlying24 info9 rfl (by decide) (by omega) u13 x13_1 y121 _ _ _ (fun k_ => (w.heap.size ≤ k_)) (fun _ => False) rfl rfl ?aO ?aR (fun _ _ h => h) (fun _ h => h.elim) ?aF ?aB ?aS ?aL ?_; (case aR => repeat (first | exact (Kd.V_reads' HO_18.out).2.2 | (with_reducible refine Kd.C_alloc ?_ _) | (with_reducible refine Kd.C_drewN ?_ _) | (with_reducible refine Kd.C_drew ?_))); (case aB => exact (by repeat (first | (with_reducible first | exact HB.out | apply below_alloc | apply pw_below_drewN | apply below_drew1 | refine below_set ?_ GE101.out | refine below_set ?_ GE115.out) | exact HB.out))); (case aF => exact (fun k_ hk => (Nat.le_trans (below_size (by repeat (first | (with_reducible first | exact HB.out | apply below_alloc | apply pw_below_drewN | apply below_drew1 | refine below_set ?_ GE101.out | refine below_set ?_ GE115.out) | exact HB.out))) hk))); (case aO => exact (by (with_reducible repeat (first | apply Kd.R_alloc | apply Kd.R_drewN | apply Kd.R_drew)); exact HO_13.out)); (case aS => exact (below_size (by repeat (first | (with_reducible first | exact HB.out | apply below_alloc | apply pw_below_drewN | apply below_drew1 | refine below_set ?_ GE101.out | refine below_set ?_ GE115.out) | exact HB.out)))); (case aL => have := LMc54.out; omega); intro v141 w55 ho hb hg hat; rw [← Ny140.out] at ho; have n0_ := Aside0.mk (Kd.V_afterv (ok := (fun k_ => ((P2_ k_ ∨ P3_ k_ ∨ P4_ k_) ∨ w.heap.size ≤ k_) ∧ some k_ ≠ (.slice (some ad114) t111.length co19 : Value).ownBlock ∧ k_ ≠ gb101 ∧ k_ ≠ gb115)) (by (with_reducible repeat (first | apply Kd.V_alloc | apply Kd.V_drewN | apply Kd.V_drew)); exact Kd.V_mono HO_2.out (fun _ hk => ⟨⟨hk.1, ⟨hk.2.2.1, ⟨hk.2.2.2.1, hk.2.2.2.2⟩⟩⟩, hk.2.1⟩)) hg hat); have n1_ := Aside0.mk (Kd.V_afterv (ok := (fun k_ => ((P2_ k_ ∨ P3_ k_ ∨ P4_ k_) ∨ w.heap.size ≤ k_) ∧ some k_ ≠ (.slice (some ad114) t111.length co19 : Value).ownBlock ∧ k_ ≠ gb101 ∧ k_ ≠ gb115)) (by (with_reducible repeat (first | apply Kd.V_alloc | apply Kd.V_drewN | apply Kd.V_drew)); exact Kd.V_mono HO_3.out (fun _ hk => ⟨⟨hk.1, ⟨hk.2.2.1, ⟨hk.2.2.2.1, hk.2.2.2.2⟩⟩⟩, hk.2.1⟩)) hg hat); have n2_ := Aside0.mk (Kd.V_afterv (ok := (fun k_ => ((P2_ k_ ∨ P3_ k_ ∨ P4_ k_) ∨ w.heap.size ≤ k_) ∧ some k_ ≠ (.slice (some ad114) t111.length co19 : Value).ownBlock ∧ k_ ≠ gb101 ∧ k_ ≠ gb115)) (by (with_reducible repeat (first | apply Kd.V_alloc | apply Kd.V_drewN | apply Kd.V_drew)); exact Kd.V_mono HO_4.out (fun _ hk => ⟨⟨hk.1, ⟨hk.2.2.1, ⟨hk.2.2.2.1, hk.2.2.2.2⟩⟩⟩, hk.2.1⟩)) hg hat); have n3_ := Aside0.mk (Kd.V_afterv (ok := (fun k_ => ((P2_ k_ ∨ P3_ k_ ∨ P4_ k_) ∨ w.heap.size ≤ k_) ∧ some k_ ≠ (.slice (some ad114) t111.length co19 : Value).ownBlock ∧ k_ ≠ gb101 ∧ k_ ≠ gb115)) (by (with_reducible repeat (first | apply Kd.V_alloc | apply Kd.V_drewN | apply Kd.V_drew)); exact Kd.V_mono HO_17.out (fun _ hk => ⟨⟨hk.1, ⟨hk.2.2.1, ⟨hk.2.2.2.1, hk.2.2.2.2⟩⟩⟩, hk.2.1⟩)) hg hat); have n4_ := Aside0.mk (Kd.V_afterv (ok := (fun k_ => ((P2_ k_ ∨ P3_ k_ ∨ P4_ k_) ∨ w.heap.size ≤ k_) ∧ some k_ ≠ (.slice (some ad114) t111.length co19 : Value).ownBlock ∧ k_ ≠ gb101 ∧ k_ ≠ gb115)) (by (with_reducible repeat (first | apply Kd.V_alloc | apply Kd.V_drewN | apply Kd.V_drew)); exact Kd.V_mono HO_18.out (fun _ hk => ⟨⟨hk.1, ⟨hk.2.2.1, ⟨hk.2.2.2.1, hk.2.2.2.2⟩⟩⟩, hk.2.1⟩)) hg hat); have n5_ := Aside0.mk (Kd.V_afterv (ok := (fun k_ => ((P2_ k_ ∨ P3_ k_ ∨ P4_ k_) ∨ w.heap.size ≤ k_) ∧ some k_ ≠ (.slice (some ad114) t111.length co19 : Value).ownBlock ∧ k_ ≠ gb101 ∧ k_ ≠ gb115)) (by (with_reducible repeat (first | apply Kd.V_alloc | apply Kd.V_drewN | apply Kd.V_drew)); exact Kd.V_mono HO_19.out (fun _ hk => ⟨⟨hk.1, ⟨hk.2.2.1, ⟨hk.2.2.2.1, hk.2.2.2.2⟩⟩⟩, hk.2.1⟩)) hg hat); have n6_ := Aside0.mk (Kd.R_over' (by (with_reducible repeat (first | apply Kd.R_alloc | apply Kd.R_drewN | apply Kd.R_drew)); exact HO_34.out) (Kd.R_typed (by (with_reducible repeat (first | apply Kd.R_alloc | apply Kd.R_drewN | apply Kd.R_drew)); exact HO_13.out)) (by decide) hg); have n7_ := Aside0.mk (blk_grown (g := gb101) (o := .cells #[.string a1_0, .string a1_1, .string a1_2] 51 (0, 0)) (by (with_reducible repeat (first | refine blk_drewN ?_ _ | refine blk_drew ?_ | refine blk_alloc ?_ _)); exact BK101.out) hg (Kd.R_ne HO_13.out BK101.out (by decide))); have n8_ := Aside0.mk (blk_grown (g := gb115) (o := .cells #[.int .i64 ((rd_T75 t111 x36_1).f0.f0), .int .i64 ((rd_T75 t111 x36_1).f0.f1), .int .i64 ((rd_T75 t111 x36_1).f1.f0), .int .i64 ((rd_T75 t111 x36_1).f1.f1), .int .i64 ((rd_T75 t111 x36_1).f2.f0), .int .i64 ((rd_T75 t111 x36_1).f2.f1), .int .i64 ((rd_T75 t111 x36_1).f3)] 75 (0, 0)) (by (with_reducible repeat (first | refine blk_drewN ?_ _ | refine blk_drew ?_ | refine blk_alloc ?_ _)); exact BK115.out) hg (Kd.R_ne HO_13.out BK115.out (by decide))); have n9_ := Aside0.mk (hb); have n10_ := Aside0.mk (ho); clear HO_2; clear HO_3; clear HO_4; clear HO_17; clear HO_18; clear HO_19; clear HO_34; clear BK101; clear BK115; clear HB; clear HO_13; have HO_2 := n0_; have HO_3 := n1_; have HO_4 := n2_; have HO_17 := n3_; have HO_18 := n4_; have HO_19 := n5_; have HO_34 := n6_; have BK101 := n7_; have BK115 := n8_; have HB := n9_; have HO142 := n10_; clear n0_ n1_ n2_ n3_ n4_ n5_ n6_ n7_ n8_ n9_ n10_; clear ho hb hg hat))
                                              go_roundg kj31
                                              case measure => have := HK1.out; have := HJ31.out; omega
                                              case rel => exact ⟨(y140), (x14_1), (wrap64 (x36_1 + 1)), (by first | rfl | (simp; done) | (simp [*]; done)), (by first | rfl | (simp; done) | (simp [*]; done)), H', ⟨by have := HK1.out; have := HJ31.out; omega⟩, ⟨by (with_reducible repeat (first | apply Kd.V_alloc | apply Kd.V_drewN | apply Kd.V_drew)); exact Kd.V_mono HO_2.out (fun _ hk => ⟨hk.1.1, ⟨hk.2, ⟨hk.1.2.1, hk.1.2.2.1⟩⟩⟩)⟩, ⟨by (with_reducible repeat (first | apply Kd.V_alloc | apply Kd.V_drewN | apply Kd.V_drew)); exact Kd.V_mono HO_3.out (fun _ hk => ⟨hk.1.1, ⟨hk.2, ⟨hk.1.2.1, hk.1.2.2.1⟩⟩⟩)⟩, ⟨by (with_reducible repeat (first | apply Kd.V_alloc | apply Kd.V_drewN | apply Kd.V_drew)); exact Kd.V_mono HO_4.out (fun _ hk => ⟨hk.1.1, ⟨hk.2, ⟨hk.1.2.1, hk.1.2.2.1⟩⟩⟩)⟩, ⟨by (with_reducible repeat (first | apply Kd.R_alloc | apply Kd.R_drewN | apply Kd.R_drew)); exact HO142.out⟩, ⟨by (with_reducible repeat (first | apply Kd.R_alloc | apply Kd.R_drewN | apply Kd.R_drew)); exact Kd.R_mono HO_34.out (fun _ hk => hk.1)⟩, ⟨by (with_reducible repeat (first | refine blk_drewN ?_ _ | refine blk_drew ?_ | refine blk_alloc ?_ _)); exact BK101.out⟩, ⟨by repeat (first | (with_reducible first | exact HB.out | apply below_alloc | apply pw_below_drewN | apply below_drew1 | refine below_set ?_ GE101.out | refine below_set ?_ GE115.out) | exact HB.out)⟩⟩
                                            · rw [if_neg c54] at H
                                              exact absurd H (by simp)
                                  · rw [if_neg c31] at H
                                    exact absurd H (by simp)
                                · rw [if_neg c30] at H
                                  exact absurd H (by simp)
                              · rw [if_neg c29] at H
                                exact absurd H (by simp)
                            · rw [if_neg c28] at H
                              exact absurd H (by simp)
                          · rw [if_neg c27] at H
                            exact absurd H (by simp)
                        · rw [if_neg c26] at H
                          exact absurd H (by simp)
                      · rw [if_neg c25] at H
                        exact absurd H (by simp)
                    · rw [if_neg c24] at H
                      exact absurd H (by simp)
                  · rw [if_neg c23] at H
                    exact absurd H (by simp)
                · rw [if_neg c22] at H
                  exact absurd H (by simp)
              · rw [if_neg c21] at H
                exact absurd H (by simp)
            · rw [if_neg c20] at H
              have c20b0 : decide (x36_1 < (t111.length : Int)) = false := decide_eq_false c20
              clear c20
              simp only [Option.some.injEq, Prod.mk.injEq] at H
              obtain ⟨rfl, rfl⟩ := H
              go_wp2
              go_ret2
              exact ⟨_, by first | rfl | (simp [errW_none, errW_some] <;> rfl) | (simp [*, errW_none, errW_some] <;> rfl), by (with_reducible repeat (first | apply Kd.R_alloc | apply Kd.R_drewN | apply Kd.R_drew)); exact HO_13.out, by repeat (first | (with_reducible first | exact HB.out | apply below_alloc | apply pw_below_drewN | apply below_drew1 | refine below_set ?_ GE101.out) | exact HB.out)⟩
      · rw [if_neg c9] at H
        exact absurd H (by simp)
    · rw [if_neg c8] at H
      exact absurd H (by simp)
  · rw [if_neg c7] at H
    exact absurd H (by simp)

end Go.Proofs.Ytlkgdfeeepiidaa.All
