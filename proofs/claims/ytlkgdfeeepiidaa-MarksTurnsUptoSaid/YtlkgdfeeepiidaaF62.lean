-- Made by a program of this session (wip/mk.py) over the kit's printing program; Lean checks it.
import Derived.Test.YtlkgdfeeepiidaaF0
import Derived.Test.YtlkgdfeeepiidaaF91
import Derived.Test.YtlkgdfeeepiidaaXIds1
namespace Go.Proofs.Ytlkgdfeeepiidaa.All
open Go.RowKit Go.Proofs.YtlkgdfeeepiidaaW.PrintWords Go.Proofs.YtlkgdfeeepiidaaW.PrintLast Go.Proofs.YtlkgdfeeepiidaaW.PrintMore
attribute [local go_sem] max2_int min2_int max_two min_two max_three min_three max_four min_four   -- for this text's walks alone
set_option linter.unusedVariables false
set_option linter.unusedSimpArgs false

/-! ### marks_Region: function 62 -/
def marks_Region.f (a0 : Int) (a1_0 : ByteArray) (a1_1 : ByteArray) (a1_2 : ByteArray) (l2 : List ByteArray) (l3 : List ByteArray) (l4 : List ByteArray) : Option (List ByteArray) := (marks_marker.f 0 a0 a1_0).bind fun t102 => ((marks_marker.f 1 a0 a1_1).bind fun t106 => ((marks_marker.f 2 a0 (⟨#[]⟩ : ByteArray)).bind fun t110 => ((marks_marker.f 3 a0 a1_2).bind fun t114 => ((slices_Concat_string_string.f (([(([t102] : List ByteArray)), l2, (([t106] : List ByteArray)), l3, (([t110] : List ByteArray)), l4, (([t114] : List ByteArray))] : List (List ByteArray)))).bind fun t121 => (some t121)))))
def marks_Region.T1 : Bool × List (List Nat × List Nat) := (true, [([], []), ([], []), ([1], [1]), ([0, 2], [0, 2]), ([3], [3]), ([], []), ([], []), ([], []), ([7], [7]), ([6, 8, 3], [6, 8]), ([9], [9]), ([], []), ([], []), ([12, 9], [12]), ([13], [13]), ([], []), ([], []), ([], []), ([17], [17]), ([16, 18, 13], [16, 18]), ([19], [19]), ([4, 5, 10, 11, 14, 15, 20], [4, 5, 10, 11, 14, 15, 20]), ([21, 19], [21]), ([22, 22, 0, 1, 2, 3, 4, 5, 6, 7, 8, 9, 10, 11, 12, 13, 14, 15, 16, 17, 18, 19, 20, 21, 22], [22])])
def marks_Region.B1 : List Nat := [0, 0, 2, 7, 15, 0, 0, 0, 128, 463, 975, 0, 0, 5071, 13263, 0, 0, 0, 131072, 472015, 996303, 2097151, 4194303, 8388607]
theorem marks_Region.tab1 : rtab .any (opsOf Try.f62 1) = marks_Region.T1 := by kernel_rfl
theorem marks_Region.bits1 : waitsOk marks_Region.T1.2 marks_Region.B1 = true := by kernel_rfl
set_option maxHeartbeats 8000000 in
set_option maxRecDepth 100000 in
theorem marks_Region.calls (a0 : Int) (a1_0 : ByteArray) (a1_1 : ByteArray) (a1_2 : ByteArray) (P2_ : Nat → Prop) (A2 : Option Addr) (c2 : Nat) (l2 : List ByteArray) (P3_ : Nat → Prop) (A3 : Option Addr) (c3 : Nat) (l3 : List ByteArray) (P4_ : Nat → Prop) (A4 : Option Addr) (c4 : Nat) (l4 : List ByteArray) (r : List ByteArray) (w : World) (hs2 : Kd.V Kd.string 9 w w.heap.size (fun k_ => P2_ k_) (.slice A2 l2.length c2) l2) (hs3 : Kd.V Kd.string 9 w w.heap.size (fun k_ => P3_ k_) (.slice A3 l3.length c3) l3) (hs4 : Kd.V Kd.string 9 w w.heap.size (fun k_ => P4_ k_) (.slice A4 l4.length c4) l4) (h : marks_Region.f a0 a1_0 a1_1 a1_2 l2 l3 l4 = some r) :
    Calls Try.prog 62 #[.int .i64 a0, .agg #[.string a1_0, .string a1_1, .string a1_2], .slice A2 l2.length c2, .slice A3 l3.length c3, .slice A4 l4.length c4] w fun e w' => ∃ v0_ : Value, e = .returned (v0_) ∧ Kd.R Kd.string 9 w' w.heap.size (fun k_ => (w.heap.size ≤ k_)) v0_ r ∧ Below w.heap.size w w' := by
  have hu51 := Try.underlying51
  have HO2 := Aside0.mk (show Kd.V Kd.string 9 w w.heap.size (fun k_ => ((P2_ k_ ∨ P3_ k_ ∨ P4_ k_) ∨ w.heap.size ≤ k_)) (.slice A2 l2.length c2) l2 from Kd.V_mono hs2 (fun k_ hk => .inl (.inl hk)))
  have HO3 := Aside0.mk (show Kd.V Kd.string 9 w w.heap.size (fun k_ => ((P2_ k_ ∨ P3_ k_ ∨ P4_ k_) ∨ w.heap.size ≤ k_)) (.slice A3 l3.length c3) l3 from Kd.V_mono hs3 (fun k_ hk => .inl (.inr (.inl hk))))
  have HO4 := Aside0.mk (show Kd.V Kd.string 9 w w.heap.size (fun k_ => ((P2_ k_ ∨ P3_ k_ ∨ P4_ k_) ∨ w.heap.size ≤ k_)) (.slice A4 l4.length c4) l4 from Kd.V_mono hs4 (fun k_ hk => .inl (.inr (.inr hk))))
  have HB := Aside0.mk (Below.refl w.heap.size w)
  have H : ((marks_marker.f 0 a0 a1_0).bind fun t102 => ((marks_marker.f 1 a0 a1_1).bind fun t106 => ((marks_marker.f 2 a0 (⟨#[]⟩ : ByteArray)).bind fun t110 => ((marks_marker.f 3 a0 a1_2).bind fun t114 => ((slices_Concat_string_string.f (([(([t102] : List ByteArray)), l2, (([t106] : List ByteArray)), l3, (([t110] : List ByteArray)), l4, (([t114] : List ByteArray))] : List (List ByteArray)))).bind fun t121 => (some t121)))))) = some r := h
  clear h
  replace H := Option.bind_eq_some_iff.mp H
  obtain ⟨t102, A60, H⟩ := H
  replace H : ((marks_marker.f 1 a0 a1_1).bind fun t106 => ((marks_marker.f 2 a0 (⟨#[]⟩ : ByteArray)).bind fun t110 => ((marks_marker.f 3 a0 a1_2).bind fun t114 => ((slices_Concat_string_string.f (([(([t102] : List ByteArray)), l2, (([t106] : List ByteArray)), l3, (([t110] : List ByteArray)), l4, (([t114] : List ByteArray))] : List (List ByteArray)))).bind fun t121 => (some t121))))) = some r := H
  have A6 := Aside0.mk A60
  clear A60
  obtain ⟨y103, hy103⟩ : ∃ y_ : List ByteArray, y_ = (([t102] : List ByteArray)) := ⟨_, rfl⟩
  replace H : ((marks_marker.f 1 a0 a1_1).bind fun t106 => ((marks_marker.f 2 a0 (⟨#[]⟩ : ByteArray)).bind fun t110 => ((marks_marker.f 3 a0 a1_2).bind fun t114 => ((slices_Concat_string_string.f (([y103, l2, (([t106] : List ByteArray)), l3, (([t110] : List ByteArray)), l4, (([t114] : List ByteArray))] : List (List ByteArray)))).bind fun t121 => (some t121))))) = some r := by first | (rw [hy103]; with_reducible exact H) | (have H2_ := (Option.bind_some _ _).symm.trans H; rw [hy103]; with_reducible exact H2_) | (have H2_ := (Option.bind_some _ _).symm.trans H; with_reducible exact H2_) | with_reducible exact H | (rw [hy103]; exact H) | exact H
  have Ny103 := Aside0.mk hy103
  clear hy103
  replace H := Option.bind_eq_some_iff.mp H
  obtain ⟨t106, A70, H⟩ := H
  replace H : ((marks_marker.f 2 a0 (⟨#[]⟩ : ByteArray)).bind fun t110 => ((marks_marker.f 3 a0 a1_2).bind fun t114 => ((slices_Concat_string_string.f (([y103, l2, (([t106] : List ByteArray)), l3, (([t110] : List ByteArray)), l4, (([t114] : List ByteArray))] : List (List ByteArray)))).bind fun t121 => (some t121)))) = some r := H
  have A7 := Aside0.mk A70
  clear A70
  obtain ⟨y107, hy107⟩ : ∃ y_ : List ByteArray, y_ = (([t106] : List ByteArray)) := ⟨_, rfl⟩
  replace H : ((marks_marker.f 2 a0 (⟨#[]⟩ : ByteArray)).bind fun t110 => ((marks_marker.f 3 a0 a1_2).bind fun t114 => ((slices_Concat_string_string.f (([y103, l2, y107, l3, (([t110] : List ByteArray)), l4, (([t114] : List ByteArray))] : List (List ByteArray)))).bind fun t121 => (some t121)))) = some r := by first | (rw [hy107]; with_reducible exact H) | (have H2_ := (Option.bind_some _ _).symm.trans H; rw [hy107]; with_reducible exact H2_) | (have H2_ := (Option.bind_some _ _).symm.trans H; with_reducible exact H2_) | with_reducible exact H | (rw [hy107]; exact H) | exact H
  have Ny107 := Aside0.mk hy107
  clear hy107
  replace H := Option.bind_eq_some_iff.mp H
  obtain ⟨t110, A80, H⟩ := H
  replace H : ((marks_marker.f 3 a0 a1_2).bind fun t114 => ((slices_Concat_string_string.f (([y103, l2, y107, l3, (([t110] : List ByteArray)), l4, (([t114] : List ByteArray))] : List (List ByteArray)))).bind fun t121 => (some t121))) = some r := H
  have A8 := Aside0.mk A80
  clear A80
  obtain ⟨y111, hy111⟩ : ∃ y_ : List ByteArray, y_ = (([t110] : List ByteArray)) := ⟨_, rfl⟩
  replace H : ((marks_marker.f 3 a0 a1_2).bind fun t114 => ((slices_Concat_string_string.f (([y103, l2, y107, l3, y111, l4, (([t114] : List ByteArray))] : List (List ByteArray)))).bind fun t121 => (some t121))) = some r := by first | (rw [hy111]; with_reducible exact H) | (have H2_ := (Option.bind_some _ _).symm.trans H; rw [hy111]; with_reducible exact H2_) | (have H2_ := (Option.bind_some _ _).symm.trans H; with_reducible exact H2_) | with_reducible exact H | (rw [hy111]; exact H) | exact H
  have Ny111 := Aside0.mk hy111
  clear hy111
  replace H := Option.bind_eq_some_iff.mp H
  obtain ⟨t114, A90, H⟩ := H
  replace H : ((slices_Concat_string_string.f (([y103, l2, y107, l3, y111, l4, (([t114] : List ByteArray))] : List (List ByteArray)))).bind fun t121 => (some t121)) = some r := H
  have A9 := Aside0.mk A90
  clear A90
  obtain ⟨y115, hy115⟩ : ∃ y_ : List ByteArray, y_ = (([t114] : List ByteArray)) := ⟨_, rfl⟩
  replace H : ((slices_Concat_string_string.f (([y103, l2, y107, l3, y111, l4, y115] : List (List ByteArray)))).bind fun t121 => (some t121)) = some r := by first | (rw [hy115]; with_reducible exact H) | (have H2_ := (Option.bind_some _ _).symm.trans H; rw [hy115]; with_reducible exact H2_) | (have H2_ := (Option.bind_some _ _).symm.trans H; with_reducible exact H2_) | with_reducible exact H | (rw [hy115]; exact H) | exact H
  have Ny115 := Aside0.mk hy115
  clear hy115
  obtain ⟨y118, hy118⟩ : ∃ y_ : List (List ByteArray), y_ = (([y103, l2, y107, l3, y111, l4, y115] : List (List ByteArray))) := ⟨_, rfl⟩
  replace H : ((slices_Concat_string_string.f y118).bind fun t121 => (some t121)) = some r := by first | (rw [hy118]; with_reducible exact H) | (have H2_ := (Option.bind_some _ _).symm.trans H; rw [hy118]; with_reducible exact H2_) | (have H2_ := (Option.bind_some _ _).symm.trans H; with_reducible exact H2_) | with_reducible exact H | (rw [hy118]; exact H) | exact H
  have Ny118 := Aside0.mk hy118
  clear hy118
  replace H := Option.bind_eq_some_iff.mp H
  obtain ⟨t121, A100, H⟩ := H
  replace H : (some t121) = some r := H
  have A10 := Aside0.mk A100
  clear A100
  obtain rfl := Option.some.inj H
  go_enter Try.func62, Try.ntmps62
  try go_wp2_with (first | ((with_reducible refine gate_dst (N := 6) rfl ?_); refine box_event ?hg (N := 6) ?hd (cs := #[.string a1_0, .string a1_1, .string a1_2]) (t := 51) ?hr ?_; (case hd => rfl); (case hg => rfl); (case hr => first | (go_simp; done) | (go_simp; rfl)); intro gb101 hg w11 hbox hb; have n0_ := Aside0.mk (Kd.V_below (Kd.V_elderB (by (with_reducible repeat (first | apply Kd.V_alloc | apply Kd.V_drewN | apply Kd.V_drew)); exact HO2.out) gb101 (Nat.le_of_eq hg.symm)) hb); have n1_ := Aside0.mk (Kd.V_below (Kd.V_elderB (by (with_reducible repeat (first | apply Kd.V_alloc | apply Kd.V_drewN | apply Kd.V_drew)); exact HO3.out) gb101 (Nat.le_of_eq hg.symm)) hb); have n2_ := Aside0.mk (Kd.V_below (Kd.V_elderB (by (with_reducible repeat (first | apply Kd.V_alloc | apply Kd.V_drewN | apply Kd.V_drew)); exact HO4.out) gb101 (Nat.le_of_eq hg.symm)) hb); have n3_ := Aside0.mk (below_step (by repeat (first | (with_reducible first | exact HB.out | apply below_alloc | apply pw_below_drewN | apply below_drew1) | exact HB.out)) hb); have n4_ := Aside0.mk (hbox); have n5_ := Aside0.mk ((by rw [hg]; exact (below_size (by repeat (first | (with_reducible first | exact HB.out | apply below_alloc | apply pw_below_drewN | apply below_drew1) | exact HB.out))) : w.heap.size ≤ gb101)); have n6_ := Aside0.mk ((by rw [hg]; exact (below_size (by repeat (first | (with_reducible first | exact HB.out | apply below_alloc | apply pw_below_drewN | apply below_drew1) | exact HB.out))) : w.heap.size ≤ gb101)); clear HO2; clear HO3; clear HO4; clear HB; have HO2 := n0_; have HO3 := n1_; have HO4 := n2_; have HB := n3_; have BK101 := n4_; have GW101 := n5_; have GE101 := n6_; clear n0_ n1_ n2_ n3_ n4_ n5_ n6_; clear hb hbox hg))
  have n0_ := Aside0.mk (Kd.V_drew HO2.out)
  have n1_ := Aside0.mk (Kd.V_drew HO3.out)
  have n2_ := Aside0.mk (Kd.V_drew HO4.out)
  have n3_ := Aside0.mk (blk_drew BK101.out)
  have n4_ := Aside0.mk (below_drew1 HB.out)
  clear HO2
  clear HO3
  clear HO4
  clear BK101
  clear HB
  have HO2 := n0_
  have HO3 := n1_
  have HO4 := n2_
  have BK101 := n3_
  have HB := n4_
  clear n0_ n1_ n2_ n3_ n4_
  refine start_ (n := 24) (S := fun w' => True) (ds := []) #[false, false, false, false, false, false, false, false, false, false, false, false, false, false, false, false, false, false, false, false, false, false, false, false] (by kernel_rfl) rfl rfl trivial (fun hHeld => ?_); refine with_tabW marks_Region.tab1 marks_Region.bits1 (fun HT_ HW_ => ?_)
  generalize w11.drew = w12 at HO2 HO3 HO4 BK101 HB hHeld ⊢
  refine pure_ (i := 0) (N := some 11) (v := ?_) (a' := ?_) #[true, false, false, false, false, false, false, false, false, false, false, false, false, false, false, false, false, false, false, false, false, false, false, false] rfl rfl (any_of HT_.out (by kernel_rfl)) (fun _ _ _ h => h) (Or.inl ⟨by rfl, ?_⟩) ?_ ?_
  rotate_left
  · intro w'
    go_simp
    with_reducible rfl
  rotate_left
  · simp only [Act.put, List.setIfInBounds_toArray, List.set_cons_zero, List.set_cons_succ, i64_w, i32_w]
    rfl
  refine pure_ (i := 1) (N := some 12) (v := ?_) (a' := ?_) #[true, true, false, false, false, false, false, false, false, false, false, false, false, false, false, false, false, false, false, false, false, false, false, false] rfl rfl (any_of HT_.out (by kernel_rfl)) (fun _ _ _ h => h) (Or.inl ⟨by rfl, ?_⟩) ?_ ?_
  rotate_left
  · intro w'
    go_simp
    with_reducible rfl
  rotate_left
  · simp only [Act.put, List.setIfInBounds_toArray, List.set_cons_zero, List.set_cons_succ, i64_w, i32_w]
    rfl
  refine pure_ (i := 5) (N := some 16) (v := ?_) (a' := ?_) #[true, true, false, false, false, true, false, false, false, false, false, false, false, false, false, false, false, false, false, false, false, false, false, false] rfl rfl (any_of HT_.out (by kernel_rfl)) (fun _ _ _ h => h) (Or.inl ⟨by rfl, ?_⟩) ?_ ?_
  rotate_left
  · intro w'
    go_simp
    with_reducible rfl
  rotate_left
  · simp only [Act.put, List.setIfInBounds_toArray, List.set_cons_zero, List.set_cons_succ, i64_w, i32_w]
    rfl
  refine pure_ (i := 6) (N := some 17) (v := ?_) (a' := ?_) #[true, true, false, false, false, true, true, false, false, false, false, false, false, false, false, false, false, false, false, false, false, false, false, false] rfl rfl (any_of HT_.out (by kernel_rfl)) (fun _ _ _ h => h) (Or.inl ⟨by rfl, ?_⟩) ?_ ?_
  rotate_left
  · intro w'
    go_simp
    with_reducible rfl
  rotate_left
  · simp only [Act.put, List.setIfInBounds_toArray, List.set_cons_zero, List.set_cons_succ, i64_w, i32_w]
    rfl
  refine pure_ (i := 7) (N := some 18) (v := ?_) (a' := ?_) #[true, true, false, false, false, true, true, true, false, false, false, false, false, false, false, false, false, false, false, false, false, false, false, false] rfl rfl (any_of HT_.out (by kernel_rfl)) (fun _ _ _ h => h) (Or.inl ⟨by rfl, ?_⟩) ?_ ?_
  rotate_left
  · intro w'
    go_simp
    with_reducible rfl
  rotate_left
  · simp only [Act.put, List.setIfInBounds_toArray, List.set_cons_zero, List.set_cons_succ, i64_w, i32_w]
    rfl
  refine pure_ (i := 11) (N := some 22) (v := ?_) (a' := ?_) #[true, true, false, false, false, true, true, true, false, false, false, true, false, false, false, false, false, false, false, false, false, false, false, false] rfl rfl (any_of HT_.out (by kernel_rfl)) (fun _ _ _ h => h) (Or.inl ⟨by rfl, ?_⟩) ?_ ?_
  rotate_left
  · intro w'
    go_simp
    with_reducible rfl
  rotate_left
  · simp only [Act.put, List.setIfInBounds_toArray, List.set_cons_zero, List.set_cons_succ, i64_w, i32_w]
    rfl
  refine pure_ (i := 12) (N := some 23) (v := ?_) (a' := ?_) #[true, true, false, false, false, true, true, true, false, false, false, true, true, false, false, false, false, false, false, false, false, false, false, false] rfl rfl (any_of HT_.out (by kernel_rfl)) (fun _ _ _ h => h) (Or.inl ⟨by rfl, ?_⟩) ?_ ?_
  rotate_left
  · intro w'
    go_simp
    with_reducible rfl
  rotate_left
  · simp only [Act.put, List.setIfInBounds_toArray, List.set_cons_zero, List.set_cons_succ, i64_w, i32_w]
    rfl
  refine pure_ (i := 15) (N := some 26) (v := ?_) (a' := ?_) #[true, true, false, false, false, true, true, true, false, false, false, true, true, false, false, true, false, false, false, false, false, false, false, false] rfl rfl (any_of HT_.out (by kernel_rfl)) (fun _ _ _ h => h) (Or.inl ⟨by rfl, ?_⟩) ?_ ?_
  rotate_left
  · intro w'
    go_simp
    with_reducible rfl
  rotate_left
  · simp only [Act.put, List.setIfInBounds_toArray, List.set_cons_zero, List.set_cons_succ, i64_w, i32_w]
    rfl
  refine pure_ (i := 16) (N := some 27) (v := ?_) (a' := ?_) #[true, true, false, false, false, true, true, true, false, false, false, true, true, false, false, true, true, false, false, false, false, false, false, false] rfl rfl (any_of HT_.out (by kernel_rfl)) (fun _ _ _ h => h) (Or.inl ⟨by rfl, ?_⟩) ?_ ?_
  rotate_left
  · intro w'
    go_simp
    with_reducible rfl
  rotate_left
  · simp only [Act.put, List.setIfInBounds_toArray, List.set_cons_zero, List.set_cons_succ, i64_w, i32_w]
    rfl
  refine pure_ (i := 17) (N := some 28) (v := ?_) (a' := ?_) #[true, true, false, false, false, true, true, true, false, false, false, true, true, false, false, true, true, true, false, false, false, false, false, false] rfl rfl (any_of HT_.out (by kernel_rfl)) (fun _ _ _ h => h) (Or.inl ⟨by rfl, ?_⟩) ?_ ?_
  rotate_left
  · intro w'
    go_simp
    with_reducible rfl
  rotate_left
  · simp only [Act.put, List.setIfInBounds_toArray, List.set_cons_zero, List.set_cons_succ, i64_w, i32_w]
    rfl
  refine inv_at [2, 3, 4, 8, 9, 10, 13, 14, 18, 19, 20, 21, 22, 23] (fun a0_ b a w' => ∃ (v104 : Value) (v108 : Value) (v112 : Value) (v116 : Value) (v119 : Value) (v122 : Value) (m23_ : Value), a = putSel a0_ b [(2, 13, .string a1_0), (3, 14, .string t102), (4, 15, v104), (8, 19, .string a1_1), (9, 20, .string t106), (10, 21, v108), (13, 24, .string t110), (14, 25, v112), (18, 29, .string a1_2), (19, 30, .string t114), (20, 31, v116), (21, 32, v119), (22, 33, v122), (23, 10, m23_)] ∧ (Kd.V Kd.string 9 w' w.heap.size (fun k_ => ((P2_ k_ ∨ P3_ k_ ∨ P4_ k_) ∨ w.heap.size ≤ k_) ∧ k_ ≠ gb101) (.slice A2 l2.length c2) l2) ∧ (Kd.V Kd.string 9 w' w.heap.size (fun k_ => ((P2_ k_ ∨ P3_ k_ ∨ P4_ k_) ∨ w.heap.size ≤ k_) ∧ k_ ≠ gb101) (.slice A3 l3.length c3) l3) ∧ (Kd.V Kd.string 9 w' w.heap.size (fun k_ => ((P2_ k_ ∨ P3_ k_ ∨ P4_ k_) ∨ w.heap.size ≤ k_) ∧ k_ ≠ gb101) (.slice A4 l4.length c4) l4) ∧ (w'.heap[gb101]? = some (.cells #[.string a1_0, .string a1_1, .string a1_2] 51 (0, 0))) ∧ (Below w.heap.size w w') ∧ (b 4 = true → b 21 = false → Kd.R Kd.string 9 w' w.heap.size (fun k_ => (w.heap.size ≤ k_)) v104 y103) ∧ (b 10 = true → b 21 = false → Kd.R Kd.string 9 w' w.heap.size (fun k_ => (w.heap.size ≤ k_)) v108 y107) ∧ (b 14 = true → b 21 = false → Kd.R Kd.string 9 w' w.heap.size (fun k_ => (w.heap.size ≤ k_)) v112 y111) ∧ (b 20 = true → b 21 = false → Kd.R Kd.string 9 w' w.heap.size (fun k_ => (w.heap.size ≤ k_)) v116 y115) ∧ (b 21 = true → Kd.N (Kd.slice 9 Kd.string) 24 w' w.heap.size (fun k_ => ((P2_ k_ ∨ P3_ k_ ∨ P4_ k_) ∨ w.heap.size ≤ k_) ∧ k_ ≠ gb101) v119 y118) ∧ (b 22 = true → Kd.R Kd.string 9 w' w.heap.size (fun k_ => (w.heap.size ≤ k_)) v122 t121) ∧ (b 23 = true → (m23_ : Value) = v122)) HT_.out HW_.out (by kernel_rfl) (by kernel_rfl) ?_ ?_ ?_
  · exact ⟨.bool false, .bool false, .bool false, .bool false, .bool false, .bool false, .bool false, by simp only [putSel, Bool.false_eq_true, if_false], HO2.out, HO3.out, HO4.out, BK101.out, HB.out, fun h_ => absurd h_ (by decide), fun h_ => absurd h_ (by decide), fun h_ => absurd h_ (by decide), fun h_ => absurd h_ (by decide), fun h_ => absurd h_ (by decide), fun h_ => absurd h_ (by decide), fun h_ => absurd h_ (by decide)⟩
  · skip
    clear BK101 HB HO2 HO3 HO4
    refine steps_cons ?_ ?_
    · rintro b a w' ⟨v104, v108, v112, v116, v119, v122, m23_, ha, Q_HO2, Q_HO3, Q_HO4, Q_BK101, Q_HB, Q_HO105, Q_HO109, Q_HO113, Q_HO117, Q_HO120, Q_HO123, Q_X23_⟩ hb_ hon hoff
      refine ⟨_, rfl, fun K hK => ?_⟩
      have e12 : a.tmps[12]? = some (.pointer (some ⟨gb101, 0, none⟩)) := by rw [ha]; exact (putSel_off rfl).trans rfl
      replace ha := Aside0.mk ha
      have HO2 := Aside0.mk Q_HO2
      have HO3 := Aside0.mk Q_HO3
      have HO4 := Aside0.mk Q_HO4
      have BK101 := Aside0.mk Q_BK101
      have HB := Aside0.mk Q_HB
      have hc0_ : w'.cell? ⟨gb101, 0, none⟩ = some (.string a1_0) := (blk_cell BK101.out 0).trans rfl
      have hc1_ : w'.cell? ⟨gb101, 1, none⟩ = some (.string a1_1) := (blk_cell BK101.out 1).trans rfl
      have hc2_ : w'.cell? ⟨gb101, 2, none⟩ = some (.string a1_2) := (blk_cell BK101.out 2).trans rfl
      refine value_ (w1 := w') (v := .string a1_0) (by rfl) rfl ?_ ?_
      · go_simp
        (try simp only [i64_w])
        try rfl
      refine hK.out _ _ ⟨v104, v108, v112, v116, v119, v122, m23_, (by rw [ha.out]; exact putSel_upk 0 hb_ rfl rfl rfl), Q_HO2, Q_HO3, Q_HO4, Q_BK101, Q_HB, fun h0_ _ => absurd ((hoff 4 (by kernel_rfl)).symm.trans h0_) (by decide), fun h0_ _ => absurd ((hoff 10 (by kernel_rfl)).symm.trans h0_) (by decide), fun h0_ _ => absurd ((hoff 14 (by kernel_rfl)).symm.trans h0_) (by decide), fun h0_ _ => absurd ((hoff 20 (by kernel_rfl)).symm.trans h0_) (by decide), fun h0_ => absurd ((hoff 21 (by kernel_rfl)).symm.trans h0_) (by decide), fun h0_ => absurd ((hoff 22 (by kernel_rfl)).symm.trans h0_) (by decide), fun h0_ => absurd ((hoff 23 (by kernel_rfl)).symm.trans h0_) (by decide)⟩
    refine steps_cons ?_ ?_
    · rintro b a w' ⟨v104, v108, v112, v116, v119, v122, m23_, ha, Q_HO2, Q_HO3, Q_HO4, Q_BK101, Q_HB, Q_HO105, Q_HO109, Q_HO113, Q_HO117, Q_HO120, Q_HO123, Q_X23_⟩ hb_ hon hoff
      refine ⟨_, rfl, fun K hK => ?_⟩
      have e11 : a.tmps[11]? = some (.int .i64 a0) := by rw [ha]; exact (putSel_off rfl).trans rfl
      have e13 : a.tmps[13]? = some (.string a1_0) := by rw [ha]; exact putSel_on (e := (2, 13, .string a1_0)) 0 rfl rfl (hon 2 (by kernel_rfl)) rfl
      replace ha := Aside0.mk ha
      have HO2 := Aside0.mk Q_HO2
      have HO3 := Aside0.mk Q_HO3
      have HO4 := Aside0.mk Q_HO4
      have BK101 := Aside0.mk Q_BK101
      have HB := Aside0.mk Q_HB
      refine goes_ Try.func91 (by kernel_rfl) rfl #[.int .i64 0, .int .i64 a0, .string a1_0] (by rfl) rfl rfl (by first | (simp only [List.map_toArray, List.map_cons, List.map_nil, Act.eval, Array.getD_eq_getD_getElem?, Option.getD_some, e11, e13]; done) | (simp only [List.map_toArray, List.map_cons, List.map_nil, Act.eval, Array.getD_eq_getD_getElem?, Option.getD_some, e11, e13]; rfl)) ?_
      with_reducible refine (marks_marker.calls 0 a0 a1_0 t102 _ A6.out).mono ?_
      rintro e w13 ⟨rfl, hb⟩
      refine ⟨_, rfl, ?_⟩
      have n0_ := Aside0.mk (Kd.V_below (by (with_reducible repeat (first | apply Kd.V_alloc | apply Kd.V_drewN | apply Kd.V_drew)); exact HO2.out) hb)
      have n1_ := Aside0.mk (Kd.V_below (by (with_reducible repeat (first | apply Kd.V_alloc | apply Kd.V_drewN | apply Kd.V_drew)); exact HO3.out) hb)
      have n2_ := Aside0.mk (Kd.V_below (by (with_reducible repeat (first | apply Kd.V_alloc | apply Kd.V_drewN | apply Kd.V_drew)); exact HO4.out) hb)
      have n3_ := Aside0.mk (blk_below (g := gb101) (o := .cells #[.string a1_0, .string a1_1, .string a1_2] 51 (0, 0)) (by (with_reducible repeat (first | refine blk_drewN ?_ _ | refine blk_drew ?_ | refine blk_alloc ?_ _)); exact BK101.out) hb)
      have n4_ := Aside0.mk (below_step (by repeat (first | (with_reducible first | exact HB.out | apply below_alloc | apply pw_below_drewN | apply below_drew1 | refine below_set ?_ GE101.out) | exact HB.out)) hb)
      clear HO2
      clear HO3
      clear HO4
      clear BK101
      clear HB
      have HO2 := n0_
      have HO3 := n1_
      have HO4 := n2_
      have BK101 := n3_
      have HB := n4_
      clear n0_ n1_ n2_ n3_ n4_
      (try clear hb)
      (try clear hb2)
      (try clear hk)
      (try clear hi)
      refine hK.out _ _ ⟨v104, v108, v112, v116, v119, v122, m23_, (by rw [ha.out]; exact putSel_upk 1 hb_ rfl rfl rfl), (by (with_reducible repeat (first | apply Kd.V_alloc | apply Kd.V_drewN | apply Kd.V_drew)); exact HO2.out), (by (with_reducible repeat (first | apply Kd.V_alloc | apply Kd.V_drewN | apply Kd.V_drew)); exact HO3.out), (by (with_reducible repeat (first | apply Kd.V_alloc | apply Kd.V_drewN | apply Kd.V_drew)); exact HO4.out), (by (with_reducible repeat (first | refine blk_drewN ?_ _ | refine blk_drew ?_ | refine blk_alloc ?_ _)); exact BK101.out), (by repeat (first | (with_reducible first | exact HB.out | apply below_alloc | apply pw_below_drewN | apply below_drew1 | refine below_set ?_ GE101.out) | exact HB.out)), fun h0_ _ => absurd ((hoff 4 (by kernel_rfl)).symm.trans h0_) (by decide), fun h0_ _ => absurd ((hoff 10 (by kernel_rfl)).symm.trans h0_) (by decide), fun h0_ _ => absurd ((hoff 14 (by kernel_rfl)).symm.trans h0_) (by decide), fun h0_ _ => absurd ((hoff 20 (by kernel_rfl)).symm.trans h0_) (by decide), fun h0_ => absurd ((hoff 21 (by kernel_rfl)).symm.trans h0_) (by decide), fun h0_ => absurd ((hoff 22 (by kernel_rfl)).symm.trans h0_) (by decide), fun h0_ => absurd ((hoff 23 (by kernel_rfl)).symm.trans h0_) (by decide)⟩
    refine steps_cons ?_ ?_
    · rintro b a w' ⟨v104, v108, v112, v116, v119, v122, m23_, ha, Q_HO2, Q_HO3, Q_HO4, Q_BK101, Q_HB, Q_HO105, Q_HO109, Q_HO113, Q_HO117, Q_HO120, Q_HO123, Q_X23_⟩ hb_ hon hoff
      refine ⟨_, rfl, fun K hK => ?_⟩
      have e14 : a.tmps[14]? = some (.string t102) := by rw [ha]; exact putSel_on (e := (3, 14, .string t102)) 1 rfl rfl (hon 3 (by kernel_rfl)) rfl
      replace ha := Aside0.mk ha
      have HO2 := Aside0.mk Q_HO2
      have HO3 := Aside0.mk Q_HO3
      have HO4 := Aside0.mk Q_HO4
      have BK101 := Aside0.mk Q_BK101
      have HB := Aside0.mk Q_HB
      refine Kd.R_lit_step Kd.string _ 9 ?hg (N := 15) ?hd (xs := ([t102] : List ByteArray)) (inner := [.string t102]) (ok := fun _ => True) (okp := fun _ => True) ?hr ?hp (fun _ hk => hk) trivial (Below.refl _ _) (Nat.le_refl _) (by simp) ?_; (case hd => rfl); (case hg => rfl); (case hr => first | (go_simp; done) | (go_simp; rfl)); (case hp => exact (Reps.one (show Kd.M Kd.string _ _ _ t102 [.string t102] from rfl) (Reps.none _ _)))
      intro v104 w15 ho16 hb hg_ hnew_
      clear hg_ hnew_
      (first | rw [← Ny103.out] at ho16 | (simp only [Int.reduceToNat] at ho16; rw [← Ny103.out] at ho16))
      have n0_ := Aside0.mk (Kd.V_elder' (by (with_reducible repeat (first | apply Kd.V_alloc | apply Kd.V_drewN | apply Kd.V_drew)); exact HO2.out) (Kd.R_base ho16) hb)
      have n1_ := Aside0.mk (Kd.V_elder' (by (with_reducible repeat (first | apply Kd.V_alloc | apply Kd.V_drewN | apply Kd.V_drew)); exact HO3.out) (Kd.R_base ho16) hb)
      have n2_ := Aside0.mk (Kd.V_elder' (by (with_reducible repeat (first | apply Kd.V_alloc | apply Kd.V_drewN | apply Kd.V_drew)); exact HO4.out) (Kd.R_base ho16) hb)
      have n3_ := Aside0.mk (Kd.R_lower (Kd.R_newM (M := fun k_ => (w.heap.size ≤ k_)) ho16 (below_size (by repeat (first | (with_reducible first | exact HB.out | apply below_alloc | apply pw_below_drewN | apply below_drew1 | refine below_set ?_ GE101.out) | exact HB.out))) (fun k_ h_ => h_)) (below_size (by repeat (first | (with_reducible first | exact HB.out | apply below_alloc | apply pw_below_drewN | apply below_drew1 | refine below_set ?_ GE101.out) | exact HB.out))))
      have n4_ := Aside0.mk (blk_below (g := gb101) (o := .cells #[.string a1_0, .string a1_1, .string a1_2] 51 (0, 0)) (by (with_reducible repeat (first | refine blk_drewN ?_ _ | refine blk_drew ?_ | refine blk_alloc ?_ _)); exact BK101.out) hb)
      have n5_ := Aside0.mk (below_step (by repeat (first | (with_reducible first | exact HB.out | apply below_alloc | apply pw_below_drewN | apply below_drew1 | refine below_set ?_ GE101.out) | exact HB.out)) hb)
      have z_HO109 := fun (h0_ : b 10 = true) (h1_ : b 21 = false) => (show Kd.R Kd.string 9 w15 w.heap.size (fun k_ => (w.heap.size ≤ k_)) v108 y107 from by first | exact (Kd.R_elder' (by (with_reducible repeat (first | apply Kd.R_alloc | apply Kd.R_drewN | apply Kd.R_drew)); exact (Q_HO109 h0_ h1_)) (Kd.R_base ho16) hb) | exact Kd.R_mono (Kd.R_elder' (by (with_reducible repeat (first | apply Kd.R_alloc | apply Kd.R_drewN | apply Kd.R_drew)); exact (Q_HO109 h0_ h1_)) (Kd.R_base ho16) hb) (fun _ h_ => by first | trivial | exact h_ | exact h_.1))
      have z_HO113 := fun (h0_ : b 14 = true) (h1_ : b 21 = false) => (show Kd.R Kd.string 9 w15 w.heap.size (fun k_ => (w.heap.size ≤ k_)) v112 y111 from by first | exact (Kd.R_elder' (by (with_reducible repeat (first | apply Kd.R_alloc | apply Kd.R_drewN | apply Kd.R_drew)); exact (Q_HO113 h0_ h1_)) (Kd.R_base ho16) hb) | exact Kd.R_mono (Kd.R_elder' (by (with_reducible repeat (first | apply Kd.R_alloc | apply Kd.R_drewN | apply Kd.R_drew)); exact (Q_HO113 h0_ h1_)) (Kd.R_base ho16) hb) (fun _ h_ => by first | trivial | exact h_ | exact h_.1))
      have z_HO117 := fun (h0_ : b 20 = true) (h1_ : b 21 = false) => (show Kd.R Kd.string 9 w15 w.heap.size (fun k_ => (w.heap.size ≤ k_)) v116 y115 from by first | exact (Kd.R_elder' (by (with_reducible repeat (first | apply Kd.R_alloc | apply Kd.R_drewN | apply Kd.R_drew)); exact (Q_HO117 h0_ h1_)) (Kd.R_base ho16) hb) | exact Kd.R_mono (Kd.R_elder' (by (with_reducible repeat (first | apply Kd.R_alloc | apply Kd.R_drewN | apply Kd.R_drew)); exact (Q_HO117 h0_ h1_)) (Kd.R_base ho16) hb) (fun _ h_ => by first | trivial | exact h_ | exact h_.1))
      clear HO2
      clear HO3
      clear HO4
      clear BK101
      clear HB
      have HO2 := n0_
      have HO3 := n1_
      have HO4 := n2_
      have HO105 := n3_
      have BK101 := n4_
      have HB := n5_
      clear n0_ n1_ n2_ n3_ n4_ n5_
      clear hb ho16
      refine hK.out _ _ ⟨v104, v108, v112, v116, v119, v122, m23_, (by rw [ha.out]; exact putSel_upk 2 hb_ rfl rfl rfl), (by (with_reducible repeat (first | apply Kd.V_alloc | apply Kd.V_drewN | apply Kd.V_drew)); exact Kd.V_mono HO2.out (fun _ hk => by first | exact ⟨hk.1.1, ⟨hk.2, hk.1.2⟩⟩ | exact ⟨hk.1.1, hk.1.2⟩ | exact ⟨hk.1.1, hk.2⟩ | exact ⟨hk.1, hk.2⟩ | exact hk.1 | exact hk)), (by (with_reducible repeat (first | apply Kd.V_alloc | apply Kd.V_drewN | apply Kd.V_drew)); exact Kd.V_mono HO3.out (fun _ hk => by first | exact ⟨hk.1.1, ⟨hk.2, hk.1.2⟩⟩ | exact ⟨hk.1.1, hk.1.2⟩ | exact ⟨hk.1.1, hk.2⟩ | exact ⟨hk.1, hk.2⟩ | exact hk.1 | exact hk)), (by (with_reducible repeat (first | apply Kd.V_alloc | apply Kd.V_drewN | apply Kd.V_drew)); exact Kd.V_mono HO4.out (fun _ hk => by first | exact ⟨hk.1.1, ⟨hk.2, hk.1.2⟩⟩ | exact ⟨hk.1.1, hk.1.2⟩ | exact ⟨hk.1.1, hk.2⟩ | exact ⟨hk.1, hk.2⟩ | exact hk.1 | exact hk)), (by (with_reducible repeat (first | refine blk_drewN ?_ _ | refine blk_drew ?_ | refine blk_alloc ?_ _)); exact BK101.out), (by repeat (first | (with_reducible first | exact HB.out | apply below_alloc | apply pw_below_drewN | apply below_drew1 | refine below_set ?_ GE101.out) | exact HB.out)), fun _ _ => (by (with_reducible repeat (first | apply Kd.R_alloc | apply Kd.R_drewN | apply Kd.R_drew)); exact Kd.R_mono HO105.out (fun _ hk => hk.1)), z_HO109, z_HO113, z_HO117, fun h0_ => absurd ((hoff 21 (by kernel_rfl)).symm.trans h0_) (by decide), fun h0_ => absurd ((hoff 22 (by kernel_rfl)).symm.trans h0_) (by decide), fun h0_ => absurd ((hoff 23 (by kernel_rfl)).symm.trans h0_) (by decide)⟩
    refine steps_cons ?_ ?_
    · rintro b a w' ⟨v104, v108, v112, v116, v119, v122, m23_, ha, Q_HO2, Q_HO3, Q_HO4, Q_BK101, Q_HB, Q_HO105, Q_HO109, Q_HO113, Q_HO117, Q_HO120, Q_HO123, Q_X23_⟩ hb_ hon hoff
      refine ⟨_, rfl, fun K hK => ?_⟩
      have e18 : a.tmps[18]? = some (.pointer (some ⟨gb101, 1, none⟩)) := by rw [ha]; exact (putSel_off rfl).trans rfl
      replace ha := Aside0.mk ha
      have HO2 := Aside0.mk Q_HO2
      have HO3 := Aside0.mk Q_HO3
      have HO4 := Aside0.mk Q_HO4
      have BK101 := Aside0.mk Q_BK101
      have HB := Aside0.mk Q_HB
      have hc0_ : w'.cell? ⟨gb101, 0, none⟩ = some (.string a1_0) := (blk_cell BK101.out 0).trans rfl
      have hc1_ : w'.cell? ⟨gb101, 1, none⟩ = some (.string a1_1) := (blk_cell BK101.out 1).trans rfl
      have hc2_ : w'.cell? ⟨gb101, 2, none⟩ = some (.string a1_2) := (blk_cell BK101.out 2).trans rfl
      refine value_ (w1 := w') (v := .string a1_1) (by rfl) rfl ?_ ?_
      · go_simp
        (try simp only [i64_w])
        try rfl
      refine hK.out _ _ ⟨v104, v108, v112, v116, v119, v122, m23_, (by rw [ha.out]; exact putSel_upk 3 hb_ rfl rfl rfl), Q_HO2, Q_HO3, Q_HO4, Q_BK101, Q_HB, Q_HO105, fun h0_ _ => absurd ((hoff 10 (by kernel_rfl)).symm.trans h0_) (by decide), fun h0_ _ => absurd ((hoff 14 (by kernel_rfl)).symm.trans h0_) (by decide), fun h0_ _ => absurd ((hoff 20 (by kernel_rfl)).symm.trans h0_) (by decide), fun h0_ => absurd ((hoff 21 (by kernel_rfl)).symm.trans h0_) (by decide), fun h0_ => absurd ((hoff 22 (by kernel_rfl)).symm.trans h0_) (by decide), fun h0_ => absurd ((hoff 23 (by kernel_rfl)).symm.trans h0_) (by decide)⟩
    refine steps_cons ?_ ?_
    · rintro b a w' ⟨v104, v108, v112, v116, v119, v122, m23_, ha, Q_HO2, Q_HO3, Q_HO4, Q_BK101, Q_HB, Q_HO105, Q_HO109, Q_HO113, Q_HO117, Q_HO120, Q_HO123, Q_X23_⟩ hb_ hon hoff
      refine ⟨_, rfl, fun K hK => ?_⟩
      have e17 : a.tmps[17]? = some (.int .i64 a0) := by rw [ha]; exact (putSel_off rfl).trans rfl
      have e19 : a.tmps[19]? = some (.string a1_1) := by rw [ha]; exact putSel_on (e := (8, 19, .string a1_1)) 3 rfl rfl (hon 8 (by kernel_rfl)) rfl
      replace ha := Aside0.mk ha
      have HO2 := Aside0.mk Q_HO2
      have HO3 := Aside0.mk Q_HO3
      have HO4 := Aside0.mk Q_HO4
      have BK101 := Aside0.mk Q_BK101
      have HB := Aside0.mk Q_HB
      refine goes_ Try.func91 (by kernel_rfl) rfl #[.int .i64 1, .int .i64 a0, .string a1_1] (by rfl) rfl rfl (by first | (simp only [List.map_toArray, List.map_cons, List.map_nil, Act.eval, Array.getD_eq_getD_getElem?, Option.getD_some, e17, e19]; done) | (simp only [List.map_toArray, List.map_cons, List.map_nil, Act.eval, Array.getD_eq_getD_getElem?, Option.getD_some, e17, e19]; rfl)) ?_
      with_reducible refine (marks_marker.calls 1 a0 a1_1 t106 _ A7.out).mono ?_
      rintro e w15 ⟨rfl, hb⟩
      refine ⟨_, rfl, ?_⟩
      have n0_ := Aside0.mk (Kd.V_below (by (with_reducible repeat (first | apply Kd.V_alloc | apply Kd.V_drewN | apply Kd.V_drew)); exact HO2.out) hb)
      have n1_ := Aside0.mk (Kd.V_below (by (with_reducible repeat (first | apply Kd.V_alloc | apply Kd.V_drewN | apply Kd.V_drew)); exact HO3.out) hb)
      have n2_ := Aside0.mk (Kd.V_below (by (with_reducible repeat (first | apply Kd.V_alloc | apply Kd.V_drewN | apply Kd.V_drew)); exact HO4.out) hb)
      have n3_ := Aside0.mk (blk_below (g := gb101) (o := .cells #[.string a1_0, .string a1_1, .string a1_2] 51 (0, 0)) (by (with_reducible repeat (first | refine blk_drewN ?_ _ | refine blk_drew ?_ | refine blk_alloc ?_ _)); exact BK101.out) hb)
      have n4_ := Aside0.mk (below_step (by repeat (first | (with_reducible first | exact HB.out | apply below_alloc | apply pw_below_drewN | apply below_drew1 | refine below_set ?_ GE101.out) | exact HB.out)) hb)
      have z_HO105 := fun (h0_ : b 4 = true) (h1_ : b 21 = false) => (show Kd.R Kd.string 9 w15 w.heap.size (fun k_ => (w.heap.size ≤ k_)) v104 y103 from by first | exact (Kd.R_below (by (with_reducible repeat (first | apply Kd.R_alloc | apply Kd.R_drewN | apply Kd.R_drew)); exact (Q_HO105 h0_ h1_)) hb) | exact Kd.R_mono (Kd.R_below (by (with_reducible repeat (first | apply Kd.R_alloc | apply Kd.R_drewN | apply Kd.R_drew)); exact (Q_HO105 h0_ h1_)) hb) (fun _ h_ => by first | trivial | exact h_ | exact h_.1))
      clear HO2
      clear HO3
      clear HO4
      clear BK101
      clear HB
      have HO2 := n0_
      have HO3 := n1_
      have HO4 := n2_
      have BK101 := n3_
      have HB := n4_
      clear n0_ n1_ n2_ n3_ n4_
      (try clear hb)
      (try clear hb2)
      (try clear hk)
      (try clear hi)
      refine hK.out _ _ ⟨v104, v108, v112, v116, v119, v122, m23_, (by rw [ha.out]; exact putSel_upk 4 hb_ rfl rfl rfl), (by (with_reducible repeat (first | apply Kd.V_alloc | apply Kd.V_drewN | apply Kd.V_drew)); exact HO2.out), (by (with_reducible repeat (first | apply Kd.V_alloc | apply Kd.V_drewN | apply Kd.V_drew)); exact HO3.out), (by (with_reducible repeat (first | apply Kd.V_alloc | apply Kd.V_drewN | apply Kd.V_drew)); exact HO4.out), (by (with_reducible repeat (first | refine blk_drewN ?_ _ | refine blk_drew ?_ | refine blk_alloc ?_ _)); exact BK101.out), (by repeat (first | (with_reducible first | exact HB.out | apply below_alloc | apply pw_below_drewN | apply below_drew1 | refine below_set ?_ GE101.out) | exact HB.out)), z_HO105, fun h0_ _ => absurd ((hoff 10 (by kernel_rfl)).symm.trans h0_) (by decide), fun h0_ _ => absurd ((hoff 14 (by kernel_rfl)).symm.trans h0_) (by decide), fun h0_ _ => absurd ((hoff 20 (by kernel_rfl)).symm.trans h0_) (by decide), fun h0_ => absurd ((hoff 21 (by kernel_rfl)).symm.trans h0_) (by decide), fun h0_ => absurd ((hoff 22 (by kernel_rfl)).symm.trans h0_) (by decide), fun h0_ => absurd ((hoff 23 (by kernel_rfl)).symm.trans h0_) (by decide)⟩
    refine steps_cons ?_ ?_
    · rintro b a w' ⟨v104, v108, v112, v116, v119, v122, m23_, ha, Q_HO2, Q_HO3, Q_HO4, Q_BK101, Q_HB, Q_HO105, Q_HO109, Q_HO113, Q_HO117, Q_HO120, Q_HO123, Q_X23_⟩ hb_ hon hoff
      refine ⟨_, rfl, fun K hK => ?_⟩
      have e20 : a.tmps[20]? = some (.string t106) := by rw [ha]; exact putSel_on (e := (9, 20, .string t106)) 4 rfl rfl (hon 9 (by kernel_rfl)) rfl
      replace ha := Aside0.mk ha
      have HO2 := Aside0.mk Q_HO2
      have HO3 := Aside0.mk Q_HO3
      have HO4 := Aside0.mk Q_HO4
      have BK101 := Aside0.mk Q_BK101
      have HB := Aside0.mk Q_HB
      refine Kd.R_lit_step Kd.string _ 9 ?hg (N := 21) ?hd (xs := ([t106] : List ByteArray)) (inner := [.string t106]) (ok := fun _ => True) (okp := fun _ => True) ?hr ?hp (fun _ hk => hk) trivial (Below.refl _ _) (Nat.le_refl _) (by simp) ?_; (case hd => rfl); (case hg => rfl); (case hr => first | (go_simp; done) | (go_simp; rfl)); (case hp => exact (Reps.one (show Kd.M Kd.string _ _ _ t106 [.string t106] from rfl) (Reps.none _ _)))
      intro v108 w16 ho17 hb hg_ hnew_
      clear hg_ hnew_
      (first | rw [← Ny107.out] at ho17 | (simp only [Int.reduceToNat] at ho17; rw [← Ny107.out] at ho17))
      have n0_ := Aside0.mk (Kd.V_elder' (by (with_reducible repeat (first | apply Kd.V_alloc | apply Kd.V_drewN | apply Kd.V_drew)); exact HO2.out) (Kd.R_base ho17) hb)
      have n1_ := Aside0.mk (Kd.V_elder' (by (with_reducible repeat (first | apply Kd.V_alloc | apply Kd.V_drewN | apply Kd.V_drew)); exact HO3.out) (Kd.R_base ho17) hb)
      have n2_ := Aside0.mk (Kd.V_elder' (by (with_reducible repeat (first | apply Kd.V_alloc | apply Kd.V_drewN | apply Kd.V_drew)); exact HO4.out) (Kd.R_base ho17) hb)
      have n3_ := Aside0.mk (Kd.R_lower (Kd.R_newM (M := fun k_ => (w.heap.size ≤ k_)) ho17 (below_size (by repeat (first | (with_reducible first | exact HB.out | apply below_alloc | apply pw_below_drewN | apply below_drew1 | refine below_set ?_ GE101.out) | exact HB.out))) (fun k_ h_ => h_)) (below_size (by repeat (first | (with_reducible first | exact HB.out | apply below_alloc | apply pw_below_drewN | apply below_drew1 | refine below_set ?_ GE101.out) | exact HB.out))))
      have n4_ := Aside0.mk (blk_below (g := gb101) (o := .cells #[.string a1_0, .string a1_1, .string a1_2] 51 (0, 0)) (by (with_reducible repeat (first | refine blk_drewN ?_ _ | refine blk_drew ?_ | refine blk_alloc ?_ _)); exact BK101.out) hb)
      have n5_ := Aside0.mk (below_step (by repeat (first | (with_reducible first | exact HB.out | apply below_alloc | apply pw_below_drewN | apply below_drew1 | refine below_set ?_ GE101.out) | exact HB.out)) hb)
      have z_HO105 := fun (h0_ : b 4 = true) (h1_ : b 21 = false) => (show Kd.R Kd.string 9 w16 w.heap.size (fun k_ => (w.heap.size ≤ k_)) v104 y103 from by first | exact (Kd.R_elder' (by (with_reducible repeat (first | apply Kd.R_alloc | apply Kd.R_drewN | apply Kd.R_drew)); exact (Q_HO105 h0_ h1_)) (Kd.R_base ho17) hb) | exact Kd.R_mono (Kd.R_elder' (by (with_reducible repeat (first | apply Kd.R_alloc | apply Kd.R_drewN | apply Kd.R_drew)); exact (Q_HO105 h0_ h1_)) (Kd.R_base ho17) hb) (fun _ h_ => by first | trivial | exact h_ | exact h_.1))
      have z_HO113 := fun (h0_ : b 14 = true) (h1_ : b 21 = false) => (show Kd.R Kd.string 9 w16 w.heap.size (fun k_ => (w.heap.size ≤ k_)) v112 y111 from by first | exact (Kd.R_elder' (by (with_reducible repeat (first | apply Kd.R_alloc | apply Kd.R_drewN | apply Kd.R_drew)); exact (Q_HO113 h0_ h1_)) (Kd.R_base ho17) hb) | exact Kd.R_mono (Kd.R_elder' (by (with_reducible repeat (first | apply Kd.R_alloc | apply Kd.R_drewN | apply Kd.R_drew)); exact (Q_HO113 h0_ h1_)) (Kd.R_base ho17) hb) (fun _ h_ => by first | trivial | exact h_ | exact h_.1))
      have z_HO117 := fun (h0_ : b 20 = true) (h1_ : b 21 = false) => (show Kd.R Kd.string 9 w16 w.heap.size (fun k_ => (w.heap.size ≤ k_)) v116 y115 from by first | exact (Kd.R_elder' (by (with_reducible repeat (first | apply Kd.R_alloc | apply Kd.R_drewN | apply Kd.R_drew)); exact (Q_HO117 h0_ h1_)) (Kd.R_base ho17) hb) | exact Kd.R_mono (Kd.R_elder' (by (with_reducible repeat (first | apply Kd.R_alloc | apply Kd.R_drewN | apply Kd.R_drew)); exact (Q_HO117 h0_ h1_)) (Kd.R_base ho17) hb) (fun _ h_ => by first | trivial | exact h_ | exact h_.1))
      clear HO2
      clear HO3
      clear HO4
      clear BK101
      clear HB
      have HO2 := n0_
      have HO3 := n1_
      have HO4 := n2_
      have HO109 := n3_
      have BK101 := n4_
      have HB := n5_
      clear n0_ n1_ n2_ n3_ n4_ n5_
      clear hb ho17
      refine hK.out _ _ ⟨v104, v108, v112, v116, v119, v122, m23_, (by rw [ha.out]; exact putSel_upk 5 hb_ rfl rfl rfl), (by (with_reducible repeat (first | apply Kd.V_alloc | apply Kd.V_drewN | apply Kd.V_drew)); exact Kd.V_mono HO2.out (fun _ hk => by first | exact ⟨hk.1.1, ⟨hk.2, hk.1.2⟩⟩ | exact ⟨hk.1.1, hk.1.2⟩ | exact ⟨hk.1.1, hk.2⟩ | exact ⟨hk.1, hk.2⟩ | exact hk.1 | exact hk)), (by (with_reducible repeat (first | apply Kd.V_alloc | apply Kd.V_drewN | apply Kd.V_drew)); exact Kd.V_mono HO3.out (fun _ hk => by first | exact ⟨hk.1.1, ⟨hk.2, hk.1.2⟩⟩ | exact ⟨hk.1.1, hk.1.2⟩ | exact ⟨hk.1.1, hk.2⟩ | exact ⟨hk.1, hk.2⟩ | exact hk.1 | exact hk)), (by (with_reducible repeat (first | apply Kd.V_alloc | apply Kd.V_drewN | apply Kd.V_drew)); exact Kd.V_mono HO4.out (fun _ hk => by first | exact ⟨hk.1.1, ⟨hk.2, hk.1.2⟩⟩ | exact ⟨hk.1.1, hk.1.2⟩ | exact ⟨hk.1.1, hk.2⟩ | exact ⟨hk.1, hk.2⟩ | exact hk.1 | exact hk)), (by (with_reducible repeat (first | refine blk_drewN ?_ _ | refine blk_drew ?_ | refine blk_alloc ?_ _)); exact BK101.out), (by repeat (first | (with_reducible first | exact HB.out | apply below_alloc | apply pw_below_drewN | apply below_drew1 | refine below_set ?_ GE101.out) | exact HB.out)), z_HO105, fun _ _ => (by (with_reducible repeat (first | apply Kd.R_alloc | apply Kd.R_drewN | apply Kd.R_drew)); exact Kd.R_mono HO109.out (fun _ hk => hk.1)), z_HO113, z_HO117, fun h0_ => absurd ((hoff 21 (by kernel_rfl)).symm.trans h0_) (by decide), fun h0_ => absurd ((hoff 22 (by kernel_rfl)).symm.trans h0_) (by decide), fun h0_ => absurd ((hoff 23 (by kernel_rfl)).symm.trans h0_) (by decide)⟩
    refine steps_cons ?_ ?_
    · rintro b a w' ⟨v104, v108, v112, v116, v119, v122, m23_, ha, Q_HO2, Q_HO3, Q_HO4, Q_BK101, Q_HB, Q_HO105, Q_HO109, Q_HO113, Q_HO117, Q_HO120, Q_HO123, Q_X23_⟩ hb_ hon hoff
      refine ⟨_, rfl, fun K hK => ?_⟩
      have e23 : a.tmps[23]? = some (.int .i64 a0) := by rw [ha]; exact (putSel_off rfl).trans rfl
      replace ha := Aside0.mk ha
      have HO2 := Aside0.mk Q_HO2
      have HO3 := Aside0.mk Q_HO3
      have HO4 := Aside0.mk Q_HO4
      have BK101 := Aside0.mk Q_BK101
      have HB := Aside0.mk Q_HB
      refine goes_ Try.func91 (by kernel_rfl) rfl #[.int .i64 2, .int .i64 a0, .string (⟨#[]⟩ : ByteArray)] (by rfl) rfl rfl (by first | (simp only [List.map_toArray, List.map_cons, List.map_nil, Act.eval, Array.getD_eq_getD_getElem?, Option.getD_some, e23]; done) | (simp only [List.map_toArray, List.map_cons, List.map_nil, Act.eval, Array.getD_eq_getD_getElem?, Option.getD_some, e23]; rfl)) ?_
      with_reducible refine (marks_marker.calls 2 a0 (⟨#[]⟩ : ByteArray) t110 _ A8.out).mono ?_
      rintro e w16 ⟨rfl, hb⟩
      refine ⟨_, rfl, ?_⟩
      have n0_ := Aside0.mk (Kd.V_below (by (with_reducible repeat (first | apply Kd.V_alloc | apply Kd.V_drewN | apply Kd.V_drew)); exact HO2.out) hb)
      have n1_ := Aside0.mk (Kd.V_below (by (with_reducible repeat (first | apply Kd.V_alloc | apply Kd.V_drewN | apply Kd.V_drew)); exact HO3.out) hb)
      have n2_ := Aside0.mk (Kd.V_below (by (with_reducible repeat (first | apply Kd.V_alloc | apply Kd.V_drewN | apply Kd.V_drew)); exact HO4.out) hb)
      have n3_ := Aside0.mk (blk_below (g := gb101) (o := .cells #[.string a1_0, .string a1_1, .string a1_2] 51 (0, 0)) (by (with_reducible repeat (first | refine blk_drewN ?_ _ | refine blk_drew ?_ | refine blk_alloc ?_ _)); exact BK101.out) hb)
      have n4_ := Aside0.mk (below_step (by repeat (first | (with_reducible first | exact HB.out | apply below_alloc | apply pw_below_drewN | apply below_drew1 | refine below_set ?_ GE101.out) | exact HB.out)) hb)
      have z_HO105 := fun (h0_ : b 4 = true) (h1_ : b 21 = false) => (show Kd.R Kd.string 9 w16 w.heap.size (fun k_ => (w.heap.size ≤ k_)) v104 y103 from by first | exact (Kd.R_below (by (with_reducible repeat (first | apply Kd.R_alloc | apply Kd.R_drewN | apply Kd.R_drew)); exact (Q_HO105 h0_ h1_)) hb) | exact Kd.R_mono (Kd.R_below (by (with_reducible repeat (first | apply Kd.R_alloc | apply Kd.R_drewN | apply Kd.R_drew)); exact (Q_HO105 h0_ h1_)) hb) (fun _ h_ => by first | trivial | exact h_ | exact h_.1))
      have z_HO109 := fun (h0_ : b 10 = true) (h1_ : b 21 = false) => (show Kd.R Kd.string 9 w16 w.heap.size (fun k_ => (w.heap.size ≤ k_)) v108 y107 from by first | exact (Kd.R_below (by (with_reducible repeat (first | apply Kd.R_alloc | apply Kd.R_drewN | apply Kd.R_drew)); exact (Q_HO109 h0_ h1_)) hb) | exact Kd.R_mono (Kd.R_below (by (with_reducible repeat (first | apply Kd.R_alloc | apply Kd.R_drewN | apply Kd.R_drew)); exact (Q_HO109 h0_ h1_)) hb) (fun _ h_ => by first | trivial | exact h_ | exact h_.1))
      clear HO2
      clear HO3
      clear HO4
      clear BK101
      clear HB
      have HO2 := n0_
      have HO3 := n1_
      have HO4 := n2_
      have BK101 := n3_
      have HB := n4_
      clear n0_ n1_ n2_ n3_ n4_
      (try clear hb)
      (try clear hb2)
      (try clear hk)
      (try clear hi)
      refine hK.out _ _ ⟨v104, v108, v112, v116, v119, v122, m23_, (by rw [ha.out]; exact putSel_upk 6 hb_ rfl rfl rfl), (by (with_reducible repeat (first | apply Kd.V_alloc | apply Kd.V_drewN | apply Kd.V_drew)); exact HO2.out), (by (with_reducible repeat (first | apply Kd.V_alloc | apply Kd.V_drewN | apply Kd.V_drew)); exact HO3.out), (by (with_reducible repeat (first | apply Kd.V_alloc | apply Kd.V_drewN | apply Kd.V_drew)); exact HO4.out), (by (with_reducible repeat (first | refine blk_drewN ?_ _ | refine blk_drew ?_ | refine blk_alloc ?_ _)); exact BK101.out), (by repeat (first | (with_reducible first | exact HB.out | apply below_alloc | apply pw_below_drewN | apply below_drew1 | refine below_set ?_ GE101.out) | exact HB.out)), z_HO105, z_HO109, fun h0_ _ => absurd ((hoff 14 (by kernel_rfl)).symm.trans h0_) (by decide), fun h0_ _ => absurd ((hoff 20 (by kernel_rfl)).symm.trans h0_) (by decide), fun h0_ => absurd ((hoff 21 (by kernel_rfl)).symm.trans h0_) (by decide), fun h0_ => absurd ((hoff 22 (by kernel_rfl)).symm.trans h0_) (by decide), fun h0_ => absurd ((hoff 23 (by kernel_rfl)).symm.trans h0_) (by decide)⟩
    refine steps_cons ?_ ?_
    · rintro b a w' ⟨v104, v108, v112, v116, v119, v122, m23_, ha, Q_HO2, Q_HO3, Q_HO4, Q_BK101, Q_HB, Q_HO105, Q_HO109, Q_HO113, Q_HO117, Q_HO120, Q_HO123, Q_X23_⟩ hb_ hon hoff
      refine ⟨_, rfl, fun K hK => ?_⟩
      have e24 : a.tmps[24]? = some (.string t110) := by rw [ha]; exact putSel_on (e := (13, 24, .string t110)) 6 rfl rfl (hon 13 (by kernel_rfl)) rfl
      replace ha := Aside0.mk ha
      have HO2 := Aside0.mk Q_HO2
      have HO3 := Aside0.mk Q_HO3
      have HO4 := Aside0.mk Q_HO4
      have BK101 := Aside0.mk Q_BK101
      have HB := Aside0.mk Q_HB
      refine Kd.R_lit_step Kd.string _ 9 ?hg (N := 25) ?hd (xs := ([t110] : List ByteArray)) (inner := [.string t110]) (ok := fun _ => True) (okp := fun _ => True) ?hr ?hp (fun _ hk => hk) trivial (Below.refl _ _) (Nat.le_refl _) (by simp) ?_; (case hd => rfl); (case hg => rfl); (case hr => first | (go_simp; done) | (go_simp; rfl)); (case hp => exact (Reps.one (show Kd.M Kd.string _ _ _ t110 [.string t110] from rfl) (Reps.none _ _)))
      intro v112 w17 ho18 hb hg_ hnew_
      clear hg_ hnew_
      (first | rw [← Ny111.out] at ho18 | (simp only [Int.reduceToNat] at ho18; rw [← Ny111.out] at ho18))
      have n0_ := Aside0.mk (Kd.V_elder' (by (with_reducible repeat (first | apply Kd.V_alloc | apply Kd.V_drewN | apply Kd.V_drew)); exact HO2.out) (Kd.R_base ho18) hb)
      have n1_ := Aside0.mk (Kd.V_elder' (by (with_reducible repeat (first | apply Kd.V_alloc | apply Kd.V_drewN | apply Kd.V_drew)); exact HO3.out) (Kd.R_base ho18) hb)
      have n2_ := Aside0.mk (Kd.V_elder' (by (with_reducible repeat (first | apply Kd.V_alloc | apply Kd.V_drewN | apply Kd.V_drew)); exact HO4.out) (Kd.R_base ho18) hb)
      have n3_ := Aside0.mk (Kd.R_lower (Kd.R_newM (M := fun k_ => (w.heap.size ≤ k_)) ho18 (below_size (by repeat (first | (with_reducible first | exact HB.out | apply below_alloc | apply pw_below_drewN | apply below_drew1 | refine below_set ?_ GE101.out) | exact HB.out))) (fun k_ h_ => h_)) (below_size (by repeat (first | (with_reducible first | exact HB.out | apply below_alloc | apply pw_below_drewN | apply below_drew1 | refine below_set ?_ GE101.out) | exact HB.out))))
      have n4_ := Aside0.mk (blk_below (g := gb101) (o := .cells #[.string a1_0, .string a1_1, .string a1_2] 51 (0, 0)) (by (with_reducible repeat (first | refine blk_drewN ?_ _ | refine blk_drew ?_ | refine blk_alloc ?_ _)); exact BK101.out) hb)
      have n5_ := Aside0.mk (below_step (by repeat (first | (with_reducible first | exact HB.out | apply below_alloc | apply pw_below_drewN | apply below_drew1 | refine below_set ?_ GE101.out) | exact HB.out)) hb)
      have z_HO105 := fun (h0_ : b 4 = true) (h1_ : b 21 = false) => (show Kd.R Kd.string 9 w17 w.heap.size (fun k_ => (w.heap.size ≤ k_)) v104 y103 from by first | exact (Kd.R_elder' (by (with_reducible repeat (first | apply Kd.R_alloc | apply Kd.R_drewN | apply Kd.R_drew)); exact (Q_HO105 h0_ h1_)) (Kd.R_base ho18) hb) | exact Kd.R_mono (Kd.R_elder' (by (with_reducible repeat (first | apply Kd.R_alloc | apply Kd.R_drewN | apply Kd.R_drew)); exact (Q_HO105 h0_ h1_)) (Kd.R_base ho18) hb) (fun _ h_ => by first | trivial | exact h_ | exact h_.1))
      have z_HO109 := fun (h0_ : b 10 = true) (h1_ : b 21 = false) => (show Kd.R Kd.string 9 w17 w.heap.size (fun k_ => (w.heap.size ≤ k_)) v108 y107 from by first | exact (Kd.R_elder' (by (with_reducible repeat (first | apply Kd.R_alloc | apply Kd.R_drewN | apply Kd.R_drew)); exact (Q_HO109 h0_ h1_)) (Kd.R_base ho18) hb) | exact Kd.R_mono (Kd.R_elder' (by (with_reducible repeat (first | apply Kd.R_alloc | apply Kd.R_drewN | apply Kd.R_drew)); exact (Q_HO109 h0_ h1_)) (Kd.R_base ho18) hb) (fun _ h_ => by first | trivial | exact h_ | exact h_.1))
      have z_HO117 := fun (h0_ : b 20 = true) (h1_ : b 21 = false) => (show Kd.R Kd.string 9 w17 w.heap.size (fun k_ => (w.heap.size ≤ k_)) v116 y115 from by first | exact (Kd.R_elder' (by (with_reducible repeat (first | apply Kd.R_alloc | apply Kd.R_drewN | apply Kd.R_drew)); exact (Q_HO117 h0_ h1_)) (Kd.R_base ho18) hb) | exact Kd.R_mono (Kd.R_elder' (by (with_reducible repeat (first | apply Kd.R_alloc | apply Kd.R_drewN | apply Kd.R_drew)); exact (Q_HO117 h0_ h1_)) (Kd.R_base ho18) hb) (fun _ h_ => by first | trivial | exact h_ | exact h_.1))
      clear HO2
      clear HO3
      clear HO4
      clear BK101
      clear HB
      have HO2 := n0_
      have HO3 := n1_
      have HO4 := n2_
      have HO113 := n3_
      have BK101 := n4_
      have HB := n5_
      clear n0_ n1_ n2_ n3_ n4_ n5_
      clear hb ho18
      refine hK.out _ _ ⟨v104, v108, v112, v116, v119, v122, m23_, (by rw [ha.out]; exact putSel_upk 7 hb_ rfl rfl rfl), (by (with_reducible repeat (first | apply Kd.V_alloc | apply Kd.V_drewN | apply Kd.V_drew)); exact Kd.V_mono HO2.out (fun _ hk => by first | exact ⟨hk.1.1, ⟨hk.2, hk.1.2⟩⟩ | exact ⟨hk.1.1, hk.1.2⟩ | exact ⟨hk.1.1, hk.2⟩ | exact ⟨hk.1, hk.2⟩ | exact hk.1 | exact hk)), (by (with_reducible repeat (first | apply Kd.V_alloc | apply Kd.V_drewN | apply Kd.V_drew)); exact Kd.V_mono HO3.out (fun _ hk => by first | exact ⟨hk.1.1, ⟨hk.2, hk.1.2⟩⟩ | exact ⟨hk.1.1, hk.1.2⟩ | exact ⟨hk.1.1, hk.2⟩ | exact ⟨hk.1, hk.2⟩ | exact hk.1 | exact hk)), (by (with_reducible repeat (first | apply Kd.V_alloc | apply Kd.V_drewN | apply Kd.V_drew)); exact Kd.V_mono HO4.out (fun _ hk => by first | exact ⟨hk.1.1, ⟨hk.2, hk.1.2⟩⟩ | exact ⟨hk.1.1, hk.1.2⟩ | exact ⟨hk.1.1, hk.2⟩ | exact ⟨hk.1, hk.2⟩ | exact hk.1 | exact hk)), (by (with_reducible repeat (first | refine blk_drewN ?_ _ | refine blk_drew ?_ | refine blk_alloc ?_ _)); exact BK101.out), (by repeat (first | (with_reducible first | exact HB.out | apply below_alloc | apply pw_below_drewN | apply below_drew1 | refine below_set ?_ GE101.out) | exact HB.out)), z_HO105, z_HO109, fun _ _ => (by (with_reducible repeat (first | apply Kd.R_alloc | apply Kd.R_drewN | apply Kd.R_drew)); exact Kd.R_mono HO113.out (fun _ hk => hk.1)), z_HO117, fun h0_ => absurd ((hoff 21 (by kernel_rfl)).symm.trans h0_) (by decide), fun h0_ => absurd ((hoff 22 (by kernel_rfl)).symm.trans h0_) (by decide), fun h0_ => absurd ((hoff 23 (by kernel_rfl)).symm.trans h0_) (by decide)⟩
    refine steps_cons ?_ ?_
    · rintro b a w' ⟨v104, v108, v112, v116, v119, v122, m23_, ha, Q_HO2, Q_HO3, Q_HO4, Q_BK101, Q_HB, Q_HO105, Q_HO109, Q_HO113, Q_HO117, Q_HO120, Q_HO123, Q_X23_⟩ hb_ hon hoff
      refine ⟨_, rfl, fun K hK => ?_⟩
      have e28 : a.tmps[28]? = some (.pointer (some ⟨gb101, 2, none⟩)) := by rw [ha]; exact (putSel_off rfl).trans rfl
      replace ha := Aside0.mk ha
      have HO2 := Aside0.mk Q_HO2
      have HO3 := Aside0.mk Q_HO3
      have HO4 := Aside0.mk Q_HO4
      have BK101 := Aside0.mk Q_BK101
      have HB := Aside0.mk Q_HB
      have hc0_ : w'.cell? ⟨gb101, 0, none⟩ = some (.string a1_0) := (blk_cell BK101.out 0).trans rfl
      have hc1_ : w'.cell? ⟨gb101, 1, none⟩ = some (.string a1_1) := (blk_cell BK101.out 1).trans rfl
      have hc2_ : w'.cell? ⟨gb101, 2, none⟩ = some (.string a1_2) := (blk_cell BK101.out 2).trans rfl
      refine value_ (w1 := w') (v := .string a1_2) (by rfl) rfl ?_ ?_
      · go_simp
        (try simp only [i64_w])
        try rfl
      refine hK.out _ _ ⟨v104, v108, v112, v116, v119, v122, m23_, (by rw [ha.out]; exact putSel_upk 8 hb_ rfl rfl rfl), Q_HO2, Q_HO3, Q_HO4, Q_BK101, Q_HB, Q_HO105, Q_HO109, Q_HO113, fun h0_ _ => absurd ((hoff 20 (by kernel_rfl)).symm.trans h0_) (by decide), fun h0_ => absurd ((hoff 21 (by kernel_rfl)).symm.trans h0_) (by decide), fun h0_ => absurd ((hoff 22 (by kernel_rfl)).symm.trans h0_) (by decide), fun h0_ => absurd ((hoff 23 (by kernel_rfl)).symm.trans h0_) (by decide)⟩
    refine steps_cons ?_ ?_
    · rintro b a w' ⟨v104, v108, v112, v116, v119, v122, m23_, ha, Q_HO2, Q_HO3, Q_HO4, Q_BK101, Q_HB, Q_HO105, Q_HO109, Q_HO113, Q_HO117, Q_HO120, Q_HO123, Q_X23_⟩ hb_ hon hoff
      refine ⟨_, rfl, fun K hK => ?_⟩
      have e27 : a.tmps[27]? = some (.int .i64 a0) := by rw [ha]; exact (putSel_off rfl).trans rfl
      have e29 : a.tmps[29]? = some (.string a1_2) := by rw [ha]; exact putSel_on (e := (18, 29, .string a1_2)) 8 rfl rfl (hon 18 (by kernel_rfl)) rfl
      replace ha := Aside0.mk ha
      have HO2 := Aside0.mk Q_HO2
      have HO3 := Aside0.mk Q_HO3
      have HO4 := Aside0.mk Q_HO4
      have BK101 := Aside0.mk Q_BK101
      have HB := Aside0.mk Q_HB
      refine goes_ Try.func91 (by kernel_rfl) rfl #[.int .i64 3, .int .i64 a0, .string a1_2] (by rfl) rfl rfl (by first | (simp only [List.map_toArray, List.map_cons, List.map_nil, Act.eval, Array.getD_eq_getD_getElem?, Option.getD_some, e27, e29]; done) | (simp only [List.map_toArray, List.map_cons, List.map_nil, Act.eval, Array.getD_eq_getD_getElem?, Option.getD_some, e27, e29]; rfl)) ?_
      with_reducible refine (marks_marker.calls 3 a0 a1_2 t114 _ A9.out).mono ?_
      rintro e w17 ⟨rfl, hb⟩
      refine ⟨_, rfl, ?_⟩
      have n0_ := Aside0.mk (Kd.V_below (by (with_reducible repeat (first | apply Kd.V_alloc | apply Kd.V_drewN | apply Kd.V_drew)); exact HO2.out) hb)
      have n1_ := Aside0.mk (Kd.V_below (by (with_reducible repeat (first | apply Kd.V_alloc | apply Kd.V_drewN | apply Kd.V_drew)); exact HO3.out) hb)
      have n2_ := Aside0.mk (Kd.V_below (by (with_reducible repeat (first | apply Kd.V_alloc | apply Kd.V_drewN | apply Kd.V_drew)); exact HO4.out) hb)
      have n3_ := Aside0.mk (blk_below (g := gb101) (o := .cells #[.string a1_0, .string a1_1, .string a1_2] 51 (0, 0)) (by (with_reducible repeat (first | refine blk_drewN ?_ _ | refine blk_drew ?_ | refine blk_alloc ?_ _)); exact BK101.out) hb)
      have n4_ := Aside0.mk (below_step (by repeat (first | (with_reducible first | exact HB.out | apply below_alloc | apply pw_below_drewN | apply below_drew1 | refine below_set ?_ GE101.out) | exact HB.out)) hb)
      have z_HO105 := fun (h0_ : b 4 = true) (h1_ : b 21 = false) => (show Kd.R Kd.string 9 w17 w.heap.size (fun k_ => (w.heap.size ≤ k_)) v104 y103 from by first | exact (Kd.R_below (by (with_reducible repeat (first | apply Kd.R_alloc | apply Kd.R_drewN | apply Kd.R_drew)); exact (Q_HO105 h0_ h1_)) hb) | exact Kd.R_mono (Kd.R_below (by (with_reducible repeat (first | apply Kd.R_alloc | apply Kd.R_drewN | apply Kd.R_drew)); exact (Q_HO105 h0_ h1_)) hb) (fun _ h_ => by first | trivial | exact h_ | exact h_.1))
      have z_HO109 := fun (h0_ : b 10 = true) (h1_ : b 21 = false) => (show Kd.R Kd.string 9 w17 w.heap.size (fun k_ => (w.heap.size ≤ k_)) v108 y107 from by first | exact (Kd.R_below (by (with_reducible repeat (first | apply Kd.R_alloc | apply Kd.R_drewN | apply Kd.R_drew)); exact (Q_HO109 h0_ h1_)) hb) | exact Kd.R_mono (Kd.R_below (by (with_reducible repeat (first | apply Kd.R_alloc | apply Kd.R_drewN | apply Kd.R_drew)); exact (Q_HO109 h0_ h1_)) hb) (fun _ h_ => by first | trivial | exact h_ | exact h_.1))
      have z_HO113 := fun (h0_ : b 14 = true) (h1_ : b 21 = false) => (show Kd.R Kd.string 9 w17 w.heap.size (fun k_ => (w.heap.size ≤ k_)) v112 y111 from by first | exact (Kd.R_below (by (with_reducible repeat (first | apply Kd.R_alloc | apply Kd.R_drewN | apply Kd.R_drew)); exact (Q_HO113 h0_ h1_)) hb) | exact Kd.R_mono (Kd.R_below (by (with_reducible repeat (first | apply Kd.R_alloc | apply Kd.R_drewN | apply Kd.R_drew)); exact (Q_HO113 h0_ h1_)) hb) (fun _ h_ => by first | trivial | exact h_ | exact h_.1))
      clear HO2
      clear HO3
      clear HO4
      clear BK101
      clear HB
      have HO2 := n0_
      have HO3 := n1_
      have HO4 := n2_
      have BK101 := n3_
      have HB := n4_
      clear n0_ n1_ n2_ n3_ n4_
      (try clear hb)
      (try clear hb2)
      (try clear hk)
      (try clear hi)
      refine hK.out _ _ ⟨v104, v108, v112, v116, v119, v122, m23_, (by rw [ha.out]; exact putSel_upk 9 hb_ rfl rfl rfl), (by (with_reducible repeat (first | apply Kd.V_alloc | apply Kd.V_drewN | apply Kd.V_drew)); exact HO2.out), (by (with_reducible repeat (first | apply Kd.V_alloc | apply Kd.V_drewN | apply Kd.V_drew)); exact HO3.out), (by (with_reducible repeat (first | apply Kd.V_alloc | apply Kd.V_drewN | apply Kd.V_drew)); exact HO4.out), (by (with_reducible repeat (first | refine blk_drewN ?_ _ | refine blk_drew ?_ | refine blk_alloc ?_ _)); exact BK101.out), (by repeat (first | (with_reducible first | exact HB.out | apply below_alloc | apply pw_below_drewN | apply below_drew1 | refine below_set ?_ GE101.out) | exact HB.out)), z_HO105, z_HO109, z_HO113, fun h0_ _ => absurd ((hoff 20 (by kernel_rfl)).symm.trans h0_) (by decide), fun h0_ => absurd ((hoff 21 (by kernel_rfl)).symm.trans h0_) (by decide), fun h0_ => absurd ((hoff 22 (by kernel_rfl)).symm.trans h0_) (by decide), fun h0_ => absurd ((hoff 23 (by kernel_rfl)).symm.trans h0_) (by decide)⟩
    refine steps_cons ?_ ?_
    · rintro b a w' ⟨v104, v108, v112, v116, v119, v122, m23_, ha, Q_HO2, Q_HO3, Q_HO4, Q_BK101, Q_HB, Q_HO105, Q_HO109, Q_HO113, Q_HO117, Q_HO120, Q_HO123, Q_X23_⟩ hb_ hon hoff
      refine ⟨_, rfl, fun K hK => ?_⟩
      have e30 : a.tmps[30]? = some (.string t114) := by rw [ha]; exact putSel_on (e := (19, 30, .string t114)) 9 rfl rfl (hon 19 (by kernel_rfl)) rfl
      replace ha := Aside0.mk ha
      have HO2 := Aside0.mk Q_HO2
      have HO3 := Aside0.mk Q_HO3
      have HO4 := Aside0.mk Q_HO4
      have BK101 := Aside0.mk Q_BK101
      have HB := Aside0.mk Q_HB
      refine Kd.R_lit_step Kd.string _ 9 ?hg (N := 31) ?hd (xs := ([t114] : List ByteArray)) (inner := [.string t114]) (ok := fun _ => True) (okp := fun _ => True) ?hr ?hp (fun _ hk => hk) trivial (Below.refl _ _) (Nat.le_refl _) (by simp) ?_; (case hd => rfl); (case hg => rfl); (case hr => first | (go_simp; done) | (go_simp; rfl)); (case hp => exact (Reps.one (show Kd.M Kd.string _ _ _ t114 [.string t114] from rfl) (Reps.none _ _)))
      intro v116 w18 ho19 hb hg_ hnew_
      clear hg_ hnew_
      (first | rw [← Ny115.out] at ho19 | (simp only [Int.reduceToNat] at ho19; rw [← Ny115.out] at ho19))
      have n0_ := Aside0.mk (Kd.V_elder' (by (with_reducible repeat (first | apply Kd.V_alloc | apply Kd.V_drewN | apply Kd.V_drew)); exact HO2.out) (Kd.R_base ho19) hb)
      have n1_ := Aside0.mk (Kd.V_elder' (by (with_reducible repeat (first | apply Kd.V_alloc | apply Kd.V_drewN | apply Kd.V_drew)); exact HO3.out) (Kd.R_base ho19) hb)
      have n2_ := Aside0.mk (Kd.V_elder' (by (with_reducible repeat (first | apply Kd.V_alloc | apply Kd.V_drewN | apply Kd.V_drew)); exact HO4.out) (Kd.R_base ho19) hb)
      have n3_ := Aside0.mk (Kd.R_lower (Kd.R_newM (M := fun k_ => (w.heap.size ≤ k_)) ho19 (below_size (by repeat (first | (with_reducible first | exact HB.out | apply below_alloc | apply pw_below_drewN | apply below_drew1 | refine below_set ?_ GE101.out) | exact HB.out))) (fun k_ h_ => h_)) (below_size (by repeat (first | (with_reducible first | exact HB.out | apply below_alloc | apply pw_below_drewN | apply below_drew1 | refine below_set ?_ GE101.out) | exact HB.out))))
      have n4_ := Aside0.mk (blk_below (g := gb101) (o := .cells #[.string a1_0, .string a1_1, .string a1_2] 51 (0, 0)) (by (with_reducible repeat (first | refine blk_drewN ?_ _ | refine blk_drew ?_ | refine blk_alloc ?_ _)); exact BK101.out) hb)
      have n5_ := Aside0.mk (below_step (by repeat (first | (with_reducible first | exact HB.out | apply below_alloc | apply pw_below_drewN | apply below_drew1 | refine below_set ?_ GE101.out) | exact HB.out)) hb)
      have z_HO105 := fun (h0_ : b 4 = true) (h1_ : b 21 = false) => (show Kd.R Kd.string 9 w18 w.heap.size (fun k_ => (w.heap.size ≤ k_)) v104 y103 from by first | exact (Kd.R_elder' (by (with_reducible repeat (first | apply Kd.R_alloc | apply Kd.R_drewN | apply Kd.R_drew)); exact (Q_HO105 h0_ h1_)) (Kd.R_base ho19) hb) | exact Kd.R_mono (Kd.R_elder' (by (with_reducible repeat (first | apply Kd.R_alloc | apply Kd.R_drewN | apply Kd.R_drew)); exact (Q_HO105 h0_ h1_)) (Kd.R_base ho19) hb) (fun _ h_ => by first | trivial | exact h_ | exact h_.1))
      have z_HO109 := fun (h0_ : b 10 = true) (h1_ : b 21 = false) => (show Kd.R Kd.string 9 w18 w.heap.size (fun k_ => (w.heap.size ≤ k_)) v108 y107 from by first | exact (Kd.R_elder' (by (with_reducible repeat (first | apply Kd.R_alloc | apply Kd.R_drewN | apply Kd.R_drew)); exact (Q_HO109 h0_ h1_)) (Kd.R_base ho19) hb) | exact Kd.R_mono (Kd.R_elder' (by (with_reducible repeat (first | apply Kd.R_alloc | apply Kd.R_drewN | apply Kd.R_drew)); exact (Q_HO109 h0_ h1_)) (Kd.R_base ho19) hb) (fun _ h_ => by first | trivial | exact h_ | exact h_.1))
      have z_HO113 := fun (h0_ : b 14 = true) (h1_ : b 21 = false) => (show Kd.R Kd.string 9 w18 w.heap.size (fun k_ => (w.heap.size ≤ k_)) v112 y111 from by first | exact (Kd.R_elder' (by (with_reducible repeat (first | apply Kd.R_alloc | apply Kd.R_drewN | apply Kd.R_drew)); exact (Q_HO113 h0_ h1_)) (Kd.R_base ho19) hb) | exact Kd.R_mono (Kd.R_elder' (by (with_reducible repeat (first | apply Kd.R_alloc | apply Kd.R_drewN | apply Kd.R_drew)); exact (Q_HO113 h0_ h1_)) (Kd.R_base ho19) hb) (fun _ h_ => by first | trivial | exact h_ | exact h_.1))
      clear HO2
      clear HO3
      clear HO4
      clear BK101
      clear HB
      have HO2 := n0_
      have HO3 := n1_
      have HO4 := n2_
      have HO117 := n3_
      have BK101 := n4_
      have HB := n5_
      clear n0_ n1_ n2_ n3_ n4_ n5_
      clear hb ho19
      refine hK.out _ _ ⟨v104, v108, v112, v116, v119, v122, m23_, (by rw [ha.out]; exact putSel_upk 10 hb_ rfl rfl rfl), (by (with_reducible repeat (first | apply Kd.V_alloc | apply Kd.V_drewN | apply Kd.V_drew)); exact Kd.V_mono HO2.out (fun _ hk => by first | exact ⟨hk.1.1, ⟨hk.2, hk.1.2⟩⟩ | exact ⟨hk.1.1, hk.1.2⟩ | exact ⟨hk.1.1, hk.2⟩ | exact ⟨hk.1, hk.2⟩ | exact hk.1 | exact hk)), (by (with_reducible repeat (first | apply Kd.V_alloc | apply Kd.V_drewN | apply Kd.V_drew)); exact Kd.V_mono HO3.out (fun _ hk => by first | exact ⟨hk.1.1, ⟨hk.2, hk.1.2⟩⟩ | exact ⟨hk.1.1, hk.1.2⟩ | exact ⟨hk.1.1, hk.2⟩ | exact ⟨hk.1, hk.2⟩ | exact hk.1 | exact hk)), (by (with_reducible repeat (first | apply Kd.V_alloc | apply Kd.V_drewN | apply Kd.V_drew)); exact Kd.V_mono HO4.out (fun _ hk => by first | exact ⟨hk.1.1, ⟨hk.2, hk.1.2⟩⟩ | exact ⟨hk.1.1, hk.1.2⟩ | exact ⟨hk.1.1, hk.2⟩ | exact ⟨hk.1, hk.2⟩ | exact hk.1 | exact hk)), (by (with_reducible repeat (first | refine blk_drewN ?_ _ | refine blk_drew ?_ | refine blk_alloc ?_ _)); exact BK101.out), (by repeat (first | (with_reducible first | exact HB.out | apply below_alloc | apply pw_below_drewN | apply below_drew1 | refine below_set ?_ GE101.out) | exact HB.out)), z_HO105, z_HO109, z_HO113, fun _ _ => (by (with_reducible repeat (first | apply Kd.R_alloc | apply Kd.R_drewN | apply Kd.R_drew)); exact Kd.R_mono HO117.out (fun _ hk => hk.1)), fun h0_ => absurd ((hoff 21 (by kernel_rfl)).symm.trans h0_) (by decide), fun h0_ => absurd ((hoff 22 (by kernel_rfl)).symm.trans h0_) (by decide), fun h0_ => absurd ((hoff 23 (by kernel_rfl)).symm.trans h0_) (by decide)⟩
    refine steps_cons ?_ ?_
    · rintro b a w' ⟨v104, v108, v112, v116, v119, v122, m23_, ha, Q_HO2, Q_HO3, Q_HO4, Q_BK101, Q_HB, Q_HO105, Q_HO109, Q_HO113, Q_HO117, Q_HO120, Q_HO123, Q_X23_⟩ hb_ hon hoff
      refine ⟨_, rfl, fun K hK => ?_⟩
      have e15 : a.tmps[15]? = some (v104) := by rw [ha]; exact putSel_on (e := (4, 15, v104)) 2 rfl rfl (hon 4 (by kernel_rfl)) rfl
      have e16 : a.tmps[16]? = some (.slice A2 l2.length c2) := by rw [ha]; exact (putSel_off rfl).trans rfl
      have e21 : a.tmps[21]? = some (v108) := by rw [ha]; exact putSel_on (e := (10, 21, v108)) 5 rfl rfl (hon 10 (by kernel_rfl)) rfl
      have e22 : a.tmps[22]? = some (.slice A3 l3.length c3) := by rw [ha]; exact (putSel_off rfl).trans rfl
      have e25 : a.tmps[25]? = some (v112) := by rw [ha]; exact putSel_on (e := (14, 25, v112)) 7 rfl rfl (hon 14 (by kernel_rfl)) rfl
      have e26 : a.tmps[26]? = some (.slice A4 l4.length c4) := by rw [ha]; exact (putSel_off rfl).trans rfl
      have e31 : a.tmps[31]? = some (v116) := by rw [ha]; exact putSel_on (e := (20, 31, v116)) 10 rfl rfl (hon 20 (by kernel_rfl)) rfl
      replace ha := Aside0.mk ha
      have HO2 := Aside0.mk Q_HO2
      have HO3 := Aside0.mk Q_HO3
      have HO4 := Aside0.mk Q_HO4
      have BK101 := Aside0.mk Q_BK101
      have HB := Aside0.mk Q_HB
      have HO105 := Aside0.mk (Q_HO105 (hon 4 (by kernel_rfl)) hb_)
      have HO109 := Aside0.mk (Q_HO109 (hon 10 (by kernel_rfl)) hb_)
      have HO113 := Aside0.mk (Q_HO113 (hon 14 (by kernel_rfl)) hb_)
      have HO117 := Aside0.mk (Q_HO117 (hon 20 (by kernel_rfl)) hb_)
      obtain ⟨Ao26, co26, eo26⟩ := Kd.R_slice HO105.out
      (first | subst eo26 | (injection eo26 with f1_ f2_ f3_; have f4_ := f1_.symm; have f5_ := f3_.symm; clear f1_ f2_ f3_; subst f4_; subst f5_))
      obtain ⟨Ao27, co27, eo27⟩ := Kd.R_slice HO109.out
      (first | subst eo27 | (injection eo27 with f1_ f2_ f3_; have f4_ := f1_.symm; have f5_ := f3_.symm; clear f1_ f2_ f3_; subst f4_; subst f5_))
      obtain ⟨Ao28, co28, eo28⟩ := Kd.R_slice HO113.out
      (first | subst eo28 | (injection eo28 with f1_ f2_ f3_; have f4_ := f1_.symm; have f5_ := f3_.symm; clear f1_ f2_ f3_; subst f4_; subst f5_))
      obtain ⟨Ao29, co29, eo29⟩ := Kd.R_slice HO117.out
      (first | subst eo29 | (injection eo29 with f1_ f2_ f3_; have f4_ := f1_.symm; have f5_ := f3_.symm; clear f1_ f2_ f3_; subst f4_; subst f5_))
      refine Kd.N_lit_step (Kd.slice 9 Kd.string) _ 24 ?hg (N' := 32) ?hd (xs := ([y103, l2, y107, l3, y111, l4, y115] : List (List ByteArray))) (inner := [.slice Ao26 y103.length co26, .slice A2 l2.length c2, .slice Ao27 y107.length co27, .slice A3 l3.length c3, .slice Ao28 y111.length co28, .slice A4 l4.length c4, .slice Ao29 y115.length co29]) (ok := (fun k_ => ((P2_ k_ ∨ P3_ k_ ∨ P4_ k_) ∨ w.heap.size ≤ k_) ∧ k_ ≠ gb101)) (okp := (fun k_ => ((P2_ k_ ∨ P3_ k_ ∨ P4_ k_) ∨ w.heap.size ≤ k_) ∧ k_ ≠ gb101)) ?hr ?hp (fun _ hk => hk) ((show ∀ k_, w'.heap.size ≤ k_ → (fun k_ => ((P2_ k_ ∨ P3_ k_ ∨ P4_ k_) ∨ w.heap.size ≤ k_) ∧ k_ ≠ gb101) k_ from fun k_ hk => ⟨(.inr (Nat.le_trans (below_size (by repeat (first | (with_reducible first | exact HB.out | apply below_alloc | apply pw_below_drewN | apply below_drew1 | refine below_set ?_ GE101.out) | exact HB.out))) hk)), Kd.freshB (g := gb101) (o := .cells #[.string a1_0, .string a1_1, .string a1_2] 51 (0, 0)) (by (with_reducible repeat (first | refine blk_drewN ?_ _ | refine blk_drew ?_ | refine blk_alloc ?_ _)); exact BK101.out) k_ hk⟩) _ (Nat.le_refl _)) (Below.refl _ _) (Nat.le_refl _) (by simp) ?_; (case hd => rfl); (case hg => rfl); (case hr => first | (go_simp; done) | (go_simp; rfl)); (case hp => exact (Reps.one (show Kd.FK (Kd.slice 9 Kd.string) _ _ y103 [.slice Ao26 y103.length co26] from (Kd.FK_slice_mk (Kd.R_reads' (Kd.R_mono (ok' := (fun k_ => ((P2_ k_ ∨ P3_ k_ ∨ P4_ k_) ∨ w.heap.size ≤ k_) ∧ k_ ≠ gb101)) (Kd.R_types (HO105.out) BK101.out (by decide)) (fun k_ hk => by first | exact ⟨(.inr (hk.1.1)), hk.2⟩ | exact ⟨.inr hk.1, hk.2⟩))).2.1 (Kd.R_F (Kd.R_mono (ok' := (fun k_ => ((P2_ k_ ∨ P3_ k_ ∨ P4_ k_) ∨ w.heap.size ≤ k_) ∧ k_ ≠ gb101)) (Kd.R_types (HO105.out) BK101.out (by decide)) (fun k_ hk => by first | exact ⟨(.inr (hk.1.1)), hk.2⟩ | exact ⟨.inr hk.1, hk.2⟩))))) (Reps.one (show Kd.FK (Kd.slice 9 Kd.string) _ _ l2 [.slice A2 l2.length c2] from (Kd.FK_slice_mk (Kd.V_reads' (Kd.V_mono (ok' := (fun k_ => ((P2_ k_ ∨ P3_ k_ ∨ P4_ k_) ∨ w.heap.size ≤ k_) ∧ k_ ≠ gb101)) (HO2.out) (fun k_ hk => by first | exact ⟨hk.1, hk.2.2.2.2.2⟩ | exact ⟨hk.1, hk.2⟩ | exact ⟨hk.1, hk.2.2⟩))).2.1 (Kd.V_F (Kd.V_mono (ok' := (fun k_ => ((P2_ k_ ∨ P3_ k_ ∨ P4_ k_) ∨ w.heap.size ≤ k_) ∧ k_ ≠ gb101)) (HO2.out) (fun k_ hk => by first | exact ⟨hk.1, hk.2.2.2.2.2⟩ | exact ⟨hk.1, hk.2⟩ | exact ⟨hk.1, hk.2.2⟩))))) (Reps.one (show Kd.FK (Kd.slice 9 Kd.string) _ _ y107 [.slice Ao27 y107.length co27] from (Kd.FK_slice_mk (Kd.R_reads' (Kd.R_mono (ok' := (fun k_ => ((P2_ k_ ∨ P3_ k_ ∨ P4_ k_) ∨ w.heap.size ≤ k_) ∧ k_ ≠ gb101)) (Kd.R_types (HO109.out) BK101.out (by decide)) (fun k_ hk => by first | exact ⟨(.inr (hk.1.1)), hk.2⟩ | exact ⟨.inr hk.1, hk.2⟩))).2.1 (Kd.R_F (Kd.R_mono (ok' := (fun k_ => ((P2_ k_ ∨ P3_ k_ ∨ P4_ k_) ∨ w.heap.size ≤ k_) ∧ k_ ≠ gb101)) (Kd.R_types (HO109.out) BK101.out (by decide)) (fun k_ hk => by first | exact ⟨(.inr (hk.1.1)), hk.2⟩ | exact ⟨.inr hk.1, hk.2⟩))))) (Reps.one (show Kd.FK (Kd.slice 9 Kd.string) _ _ l3 [.slice A3 l3.length c3] from (Kd.FK_slice_mk (Kd.V_reads' (Kd.V_mono (ok' := (fun k_ => ((P2_ k_ ∨ P3_ k_ ∨ P4_ k_) ∨ w.heap.size ≤ k_) ∧ k_ ≠ gb101)) (HO3.out) (fun k_ hk => by first | exact ⟨hk.1, hk.2.2.2.2.2⟩ | exact ⟨hk.1, hk.2⟩ | exact ⟨hk.1, hk.2.2⟩))).2.1 (Kd.V_F (Kd.V_mono (ok' := (fun k_ => ((P2_ k_ ∨ P3_ k_ ∨ P4_ k_) ∨ w.heap.size ≤ k_) ∧ k_ ≠ gb101)) (HO3.out) (fun k_ hk => by first | exact ⟨hk.1, hk.2.2.2.2.2⟩ | exact ⟨hk.1, hk.2⟩ | exact ⟨hk.1, hk.2.2⟩))))) (Reps.one (show Kd.FK (Kd.slice 9 Kd.string) _ _ y111 [.slice Ao28 y111.length co28] from (Kd.FK_slice_mk (Kd.R_reads' (Kd.R_mono (ok' := (fun k_ => ((P2_ k_ ∨ P3_ k_ ∨ P4_ k_) ∨ w.heap.size ≤ k_) ∧ k_ ≠ gb101)) (Kd.R_types (HO113.out) BK101.out (by decide)) (fun k_ hk => by first | exact ⟨(.inr (hk.1.1)), hk.2⟩ | exact ⟨.inr hk.1, hk.2⟩))).2.1 (Kd.R_F (Kd.R_mono (ok' := (fun k_ => ((P2_ k_ ∨ P3_ k_ ∨ P4_ k_) ∨ w.heap.size ≤ k_) ∧ k_ ≠ gb101)) (Kd.R_types (HO113.out) BK101.out (by decide)) (fun k_ hk => by first | exact ⟨(.inr (hk.1.1)), hk.2⟩ | exact ⟨.inr hk.1, hk.2⟩))))) (Reps.one (show Kd.FK (Kd.slice 9 Kd.string) _ _ l4 [.slice A4 l4.length c4] from (Kd.FK_slice_mk (Kd.V_reads' (Kd.V_mono (ok' := (fun k_ => ((P2_ k_ ∨ P3_ k_ ∨ P4_ k_) ∨ w.heap.size ≤ k_) ∧ k_ ≠ gb101)) (HO4.out) (fun k_ hk => by first | exact ⟨hk.1, hk.2.2.2.2.2⟩ | exact ⟨hk.1, hk.2⟩ | exact ⟨hk.1, hk.2.2⟩))).2.1 (Kd.V_F (Kd.V_mono (ok' := (fun k_ => ((P2_ k_ ∨ P3_ k_ ∨ P4_ k_) ∨ w.heap.size ≤ k_) ∧ k_ ≠ gb101)) (HO4.out) (fun k_ hk => by first | exact ⟨hk.1, hk.2.2.2.2.2⟩ | exact ⟨hk.1, hk.2⟩ | exact ⟨hk.1, hk.2.2⟩))))) (Reps.one (show Kd.FK (Kd.slice 9 Kd.string) _ _ y115 [.slice Ao29 y115.length co29] from (Kd.FK_slice_mk (Kd.R_reads' (Kd.R_mono (ok' := (fun k_ => ((P2_ k_ ∨ P3_ k_ ∨ P4_ k_) ∨ w.heap.size ≤ k_) ∧ k_ ≠ gb101)) (Kd.R_types (HO117.out) BK101.out (by decide)) (fun k_ hk => by first | exact ⟨(.inr (hk.1.1)), hk.2⟩ | exact ⟨.inr hk.1, hk.2⟩))).2.1 (Kd.R_F (Kd.R_mono (ok' := (fun k_ => ((P2_ k_ ∨ P3_ k_ ∨ P4_ k_) ∨ w.heap.size ≤ k_) ∧ k_ ≠ gb101)) (Kd.R_types (HO117.out) BK101.out (by decide)) (fun k_ hk => by first | exact ⟨(.inr (hk.1.1)), hk.2⟩ | exact ⟨.inr hk.1, hk.2⟩))))) (Reps.none _ _)))))))))
      intro v119 w30 ho31 hb hg_ hnew_
      clear hg_ hnew_
      (first | rw [← Ny118.out] at ho31 | (simp only [Int.reduceToNat] at ho31; rw [← Ny118.out] at ho31))
      have n0_ := Aside0.mk (Kd.V_elder' (by (with_reducible repeat (first | apply Kd.V_alloc | apply Kd.V_drewN | apply Kd.V_drew)); exact HO2.out) (Kd.N_base ho31) hb)
      have n1_ := Aside0.mk (Kd.V_elder' (by (with_reducible repeat (first | apply Kd.V_alloc | apply Kd.V_drewN | apply Kd.V_drew)); exact HO3.out) (Kd.N_base ho31) hb)
      have n2_ := Aside0.mk (Kd.V_elder' (by (with_reducible repeat (first | apply Kd.V_alloc | apply Kd.V_drewN | apply Kd.V_drew)); exact HO4.out) (Kd.N_base ho31) hb)
      have n3_ := Aside0.mk (Kd.N_lower ho31 (below_size (by repeat (first | (with_reducible first | exact HB.out | apply below_alloc | apply pw_below_drewN | apply below_drew1 | refine below_set ?_ GE101.out) | exact HB.out))))
      have n4_ := Aside0.mk (blk_below (g := gb101) (o := .cells #[.string a1_0, .string a1_1, .string a1_2] 51 (0, 0)) (by (with_reducible repeat (first | refine blk_drewN ?_ _ | refine blk_drew ?_ | refine blk_alloc ?_ _)); exact BK101.out) hb)
      have n5_ := Aside0.mk (below_step (by repeat (first | (with_reducible first | exact HB.out | apply below_alloc | apply pw_below_drewN | apply below_drew1 | refine below_set ?_ GE101.out) | exact HB.out)) hb)
      clear HO2
      clear HO3
      clear HO4
      clear BK101
      clear HB
      clear HO105
      clear HO109
      clear HO113
      clear HO117
      have HO2 := n0_
      have HO3 := n1_
      have HO4 := n2_
      have HO120 := n3_
      have BK101 := n4_
      have HB := n5_
      clear n0_ n1_ n2_ n3_ n4_ n5_
      clear hb ho31
      refine hK.out _ _ ⟨.slice Ao26 y103.length co26, .slice Ao27 y107.length co27, .slice Ao28 y111.length co28, .slice Ao29 y115.length co29, v119, v122, m23_, (by rw [ha.out]; exact putSel_upk 11 hb_ rfl rfl rfl), (by (with_reducible repeat (first | apply Kd.V_alloc | apply Kd.V_drewN | apply Kd.V_drew)); exact Kd.V_mono HO2.out (fun _ hk => by first | exact ⟨hk.1.1, ⟨hk.2, hk.1.2.2.2.2.2⟩⟩ | exact ⟨hk.1, hk.2⟩ | exact ⟨hk.1.1, hk.1.2⟩ | exact ⟨hk.1.1, hk.2⟩ | exact hk.1 | exact hk)), (by (with_reducible repeat (first | apply Kd.V_alloc | apply Kd.V_drewN | apply Kd.V_drew)); exact Kd.V_mono HO3.out (fun _ hk => by first | exact ⟨hk.1.1, ⟨hk.2, hk.1.2.2.2.2.2⟩⟩ | exact ⟨hk.1, hk.2⟩ | exact ⟨hk.1.1, hk.1.2⟩ | exact ⟨hk.1.1, hk.2⟩ | exact hk.1 | exact hk)), (by (with_reducible repeat (first | apply Kd.V_alloc | apply Kd.V_drewN | apply Kd.V_drew)); exact Kd.V_mono HO4.out (fun _ hk => by first | exact ⟨hk.1.1, ⟨hk.2, hk.1.2.2.2.2.2⟩⟩ | exact ⟨hk.1, hk.2⟩ | exact ⟨hk.1.1, hk.1.2⟩ | exact ⟨hk.1.1, hk.2⟩ | exact hk.1 | exact hk)), (by (with_reducible repeat (first | refine blk_drewN ?_ _ | refine blk_drew ?_ | refine blk_alloc ?_ _)); exact BK101.out), (by repeat (first | (with_reducible first | exact HB.out | apply below_alloc | apply pw_below_drewN | apply below_drew1 | refine below_set ?_ GE101.out) | exact HB.out)), fun _ h1_ => absurd ((up_self b 21).symm.trans h1_) (by decide), fun _ h1_ => absurd ((up_self b 21).symm.trans h1_) (by decide), fun _ h1_ => absurd ((up_self b 21).symm.trans h1_) (by decide), fun _ h1_ => absurd ((up_self b 21).symm.trans h1_) (by decide), fun _ => (by (with_reducible repeat (first | apply Kd.N_alloc | apply Kd.N_drewN | apply Kd.N_drew)); exact HO120.out), fun h0_ => absurd ((hoff 22 (by kernel_rfl)).symm.trans h0_) (by decide), fun h0_ => absurd ((hoff 23 (by kernel_rfl)).symm.trans h0_) (by decide)⟩
    refine steps_cons ?_ ?_
    · rintro b a w' ⟨v104, v108, v112, v116, v119, v122, m23_, ha, Q_HO2, Q_HO3, Q_HO4, Q_BK101, Q_HB, Q_HO105, Q_HO109, Q_HO113, Q_HO117, Q_HO120, Q_HO123, Q_X23_⟩ hb_ hon hoff
      refine ⟨_, rfl, fun K hK => ?_⟩
      have e32 : a.tmps[32]? = some (v119) := by rw [ha]; exact putSel_on (e := (21, 32, v119)) 11 rfl rfl (hon 21 (by kernel_rfl)) rfl
      replace ha := Aside0.mk ha
      have HO2 := Aside0.mk Q_HO2
      have HO3 := Aside0.mk Q_HO3
      have HO4 := Aside0.mk Q_HO4
      have BK101 := Aside0.mk Q_BK101
      have HB := Aside0.mk Q_HB
      have HO120 := Aside0.mk (Q_HO120 (hon 21 (by kernel_rfl)))
      obtain ⟨Ao32, co32, eo32⟩ := Kd.N_slice HO120.out
      (first | subst eo32 | (injection eo32 with f1_ f2_ f3_; have f4_ := f1_.symm; have f5_ := f3_.symm; clear f1_ f2_ f3_; subst f4_; subst f5_))
      refine goes_ Try.func70 (by kernel_rfl) rfl #[.slice Ao32 y118.length co32] (by rfl) rfl rfl (by first | (simp only [List.map_toArray, List.map_cons, List.map_nil, Act.eval, Array.getD_eq_getD_getElem?, Option.getD_some, e32]; done) | (simp only [List.map_toArray, List.map_cons, List.map_nil, Act.eval, Array.getD_eq_getD_getElem?, Option.getD_some, e32]; rfl)) ?_
      with_reducible refine (slices_Concat_string_string.calls _ _ y118 t121 _ ?side1 ?side2 A10.out).mono ?_
      (case side1 => repeat (first | exact (Kd.N_reads' HO120.out).2.2 | (with_reducible refine Kd.C_alloc ?_ _) | (with_reducible refine Kd.C_drewN ?_ _) | (with_reducible refine Kd.C_drew ?_)))
      (case side2 => exact (Kd.N_reads' HO120.out).2.1)
      rintro e w33 ⟨v122, rfl, ho0, hb⟩
      refine ⟨_, rfl, ?_⟩
      have n0_ := Aside0.mk (Kd.V_elder' (by (with_reducible repeat (first | apply Kd.V_alloc | apply Kd.V_drewN | apply Kd.V_drew)); exact HO2.out) (Kd.R_base ho0) hb)
      have n1_ := Aside0.mk (Kd.V_elder' (by (with_reducible repeat (first | apply Kd.V_alloc | apply Kd.V_drewN | apply Kd.V_drew)); exact HO3.out) (Kd.R_base ho0) hb)
      have n2_ := Aside0.mk (Kd.V_elder' (by (with_reducible repeat (first | apply Kd.V_alloc | apply Kd.V_drewN | apply Kd.V_drew)); exact HO4.out) (Kd.R_base ho0) hb)
      have n3_ := Aside0.mk (Kd.N_elder' (by (with_reducible repeat (first | apply Kd.N_alloc | apply Kd.N_drewN | apply Kd.N_drew)); exact HO120.out) (Kd.R_base ho0) hb)
      have n4_ := Aside0.mk (Kd.R_lower (Kd.R_newM (M := fun k_ => (w.heap.size ≤ k_)) ho0 (below_size (by repeat (first | (with_reducible first | exact HB.out | apply below_alloc | apply pw_below_drewN | apply below_drew1 | refine below_set ?_ GE101.out) | exact HB.out))) (fun k_ h_ => h_)) (below_size (by repeat (first | (with_reducible first | exact HB.out | apply below_alloc | apply pw_below_drewN | apply below_drew1 | refine below_set ?_ GE101.out) | exact HB.out))))
      have n5_ := Aside0.mk (blk_below (g := gb101) (o := .cells #[.string a1_0, .string a1_1, .string a1_2] 51 (0, 0)) (by (with_reducible repeat (first | refine blk_drewN ?_ _ | refine blk_drew ?_ | refine blk_alloc ?_ _)); exact BK101.out) hb)
      have n6_ := Aside0.mk (below_step (by repeat (first | (with_reducible first | exact HB.out | apply below_alloc | apply pw_below_drewN | apply below_drew1 | refine below_set ?_ GE101.out) | exact HB.out)) hb)
      clear HO2
      clear HO3
      clear HO4
      clear HO120
      clear BK101
      clear HB
      have HO2 := n0_
      have HO3 := n1_
      have HO4 := n2_
      have HO120 := n3_
      have HO123 := n4_
      have BK101 := n5_
      have HB := n6_
      clear n0_ n1_ n2_ n3_ n4_ n5_ n6_
      (try clear hb)
      (try clear hb2)
      (try clear hk)
      (try clear hi)
      (try clear ho0)
      refine hK.out _ _ ⟨v104, v108, v112, v116, .slice Ao32 y118.length co32, v122, m23_, (by rw [ha.out]; exact putSel_upk 12 hb_ rfl rfl rfl), (by (with_reducible repeat (first | apply Kd.V_alloc | apply Kd.V_drewN | apply Kd.V_drew)); exact Kd.V_mono HO2.out (fun _ hk => by first | exact ⟨hk.1.1, ⟨hk.1.2.1, ⟨hk.2, hk.1.2.2⟩⟩⟩ | exact ⟨hk.1, hk.2⟩ | exact ⟨hk.1.1, hk.1.2⟩ | exact ⟨hk.1.1, hk.2⟩ | exact hk.1 | exact hk)), (by (with_reducible repeat (first | apply Kd.V_alloc | apply Kd.V_drewN | apply Kd.V_drew)); exact Kd.V_mono HO3.out (fun _ hk => by first | exact ⟨hk.1.1, ⟨hk.1.2.1, ⟨hk.2, hk.1.2.2⟩⟩⟩ | exact ⟨hk.1, hk.2⟩ | exact ⟨hk.1.1, hk.1.2⟩ | exact ⟨hk.1.1, hk.2⟩ | exact hk.1 | exact hk)), (by (with_reducible repeat (first | apply Kd.V_alloc | apply Kd.V_drewN | apply Kd.V_drew)); exact Kd.V_mono HO4.out (fun _ hk => by first | exact ⟨hk.1.1, ⟨hk.1.2.1, ⟨hk.2, hk.1.2.2⟩⟩⟩ | exact ⟨hk.1, hk.2⟩ | exact ⟨hk.1.1, hk.1.2⟩ | exact ⟨hk.1.1, hk.2⟩ | exact hk.1 | exact hk)), (by (with_reducible repeat (first | refine blk_drewN ?_ _ | refine blk_drew ?_ | refine blk_alloc ?_ _)); exact BK101.out), (by repeat (first | (with_reducible first | exact HB.out | apply below_alloc | apply pw_below_drewN | apply below_drew1 | refine below_set ?_ GE101.out) | exact HB.out)), fun _ h1_ => absurd ((hon 21 (by kernel_rfl)).symm.trans h1_) (by decide), fun _ h1_ => absurd ((hon 21 (by kernel_rfl)).symm.trans h1_) (by decide), fun _ h1_ => absurd ((hon 21 (by kernel_rfl)).symm.trans h1_) (by decide), fun _ h1_ => absurd ((hon 21 (by kernel_rfl)).symm.trans h1_) (by decide), fun _ => (by (with_reducible repeat (first | apply Kd.N_alloc | apply Kd.N_drewN | apply Kd.N_drew)); exact Kd.N_mono HO120.out (fun _ hk => by first | exact ⟨hk.1.1, ⟨hk.2, hk.1.2⟩⟩ | exact ⟨hk.1.1, hk.1.2⟩ | exact ⟨hk.1.1, hk.2⟩ | exact ⟨hk.1, hk.2⟩ | exact hk.1 | exact hk)), fun _ => (by (with_reducible repeat (first | apply Kd.R_alloc | apply Kd.R_drewN | apply Kd.R_drew)); exact Kd.R_mono HO123.out (fun _ hk => hk.1)), fun h0_ => absurd ((hoff 23 (by kernel_rfl)).symm.trans h0_) (by decide)⟩
    refine steps_cons ?_ ?_
    · rintro b a w' ⟨v104, v108, v112, v116, v119, v122, m23_, ha, Q_HO2, Q_HO3, Q_HO4, Q_BK101, Q_HB, Q_HO105, Q_HO109, Q_HO113, Q_HO117, Q_HO120, Q_HO123, Q_X23_⟩ hb_ hon hoff
      refine ⟨_, rfl, fun K hK => ?_⟩
      have e33 : a.tmps[33]? = some (v122) := by rw [ha]; exact putSel_on (e := (22, 33, v122)) 12 rfl rfl (hon 22 (by kernel_rfl)) rfl
      replace ha := Aside0.mk ha
      have HO2 := Aside0.mk Q_HO2
      have HO3 := Aside0.mk Q_HO3
      have HO4 := Aside0.mk Q_HO4
      have BK101 := Aside0.mk Q_BK101
      have HB := Aside0.mk Q_HB
      have HO120 := Aside0.mk (Q_HO120 (hon 21 (by kernel_rfl)))
      have HO123 := Aside0.mk (Q_HO123 (hon 22 (by kernel_rfl)))
      refine value_ (w1 := w') (v := v122) (by rfl) rfl ?_ ?_
      · go_simp
        (try simp only [i64_w])
        try rfl
      refine hK.out _ _ ⟨v104, v108, v112, v116, v119, v122, (v122), (by rw [ha.out]; exact putSel_upk 13 hb_ rfl rfl rfl), Q_HO2, Q_HO3, Q_HO4, Q_BK101, Q_HB, fun _ h1_ => absurd ((hon 21 (by kernel_rfl)).symm.trans h1_) (by decide), fun _ h1_ => absurd ((hon 21 (by kernel_rfl)).symm.trans h1_) (by decide), fun _ h1_ => absurd ((hon 21 (by kernel_rfl)).symm.trans h1_) (by decide), fun _ h1_ => absurd ((hon 21 (by kernel_rfl)).symm.trans h1_) (by decide), Q_HO120, Q_HO123, fun _ => rfl⟩
    exact steps_nil
  rintro b a w33 hall ⟨v104, v108, v112, v116, v119, v122, m23_, ha, Q_HO2, Q_HO3, Q_HO4, Q_BK101, Q_HB, Q_HO105, Q_HO109, Q_HO113, Q_HO117, Q_HO120, Q_HO123, Q_X23_⟩
  clear BK101 HB HO2 HO3 HO4
  have hb2_ := hall 2 (by kernel_rfl)
  have hb3_ := hall 3 (by kernel_rfl)
  have hb4_ := hall 4 (by kernel_rfl)
  have hb8_ := hall 8 (by kernel_rfl)
  have hb9_ := hall 9 (by kernel_rfl)
  have hb10_ := hall 10 (by kernel_rfl)
  have hb13_ := hall 13 (by kernel_rfl)
  have hb14_ := hall 14 (by kernel_rfl)
  have hb18_ := hall 18 (by kernel_rfl)
  have hb19_ := hall 19 (by kernel_rfl)
  have hb20_ := hall 20 (by kernel_rfl)
  have hb21_ := hall 21 (by kernel_rfl)
  have hb22_ := hall 22 (by kernel_rfl)
  have hb23_ := hall 23 (by kernel_rfl)
  subst ha
  obtain rfl := Q_X23_ hb23_
  simp only [putSel, hb2_, hb3_, hb4_, hb8_, hb9_, hb10_, hb13_, hb14_, hb18_, hb19_, hb20_, hb21_, hb22_, hb23_, if_true, Act.put, List.setIfInBounds_toArray, List.set_cons_zero, List.set_cons_succ]
  have HO2 := Aside0.mk Q_HO2
  clear Q_HO2
  have HO3 := Aside0.mk Q_HO3
  clear Q_HO3
  have HO4 := Aside0.mk Q_HO4
  clear Q_HO4
  have BK101 := Aside0.mk Q_BK101
  clear Q_BK101
  have HB := Aside0.mk Q_HB
  clear Q_HB
  clear Q_HO105
  clear Q_HO109
  clear Q_HO113
  clear Q_HO117
  have HO120 := Aside0.mk (Q_HO120 hb21_)
  clear Q_HO120
  have HO123 := Aside0.mk (Q_HO123 hb22_)
  clear Q_HO123
  clear hall hb2_ hb3_ hb4_ hb8_ hb9_ hb10_ hb13_ hb14_ hb18_ hb19_ hb20_ hb21_ hb22_ hb23_
  try go_wp2
  go_ret
  exact ⟨_, by first | rfl | (simp [errW_none, errW_some] <;> rfl) | (simp [*, errW_none, errW_some] <;> rfl), by (with_reducible repeat (first | apply Kd.R_alloc | apply Kd.R_drewN | apply Kd.R_drew)); exact HO123.out, by repeat (first | (with_reducible first | exact HB.out | apply below_alloc | apply pw_below_drewN | apply below_drew1 | refine below_set ?_ GE101.out) | exact HB.out)⟩

end Go.Proofs.Ytlkgdfeeepiidaa.All
