-- Made by a program of this session (wip/mk.py) over the kit's printing program; Lean checks it.
import Derived.Test.YtlkgdfeeepiidaaF0
import Derived.Test.YtlkgdfeeepiidaaF27
import Derived.Test.YtlkgdfeeepiidaaF41
import Derived.Test.YtlkgdfeeepiidaaF62
import Derived.Test.YtlkgdfeeepiidaaF39
import Derived.Test.YtlkgdfeeepiidaaF40
import Derived.Test.YtlkgdfeeepiidaaF42
import Derived.Test.YtlkgdfeeepiidaaF44
namespace Go.Proofs.Ytlkgdfeeepiidaa.All
open Go.RowKit Go.Proofs.YtlkgdfeeepiidaaW.PrintWords Go.Proofs.YtlkgdfeeepiidaaW.PrintLast Go.Proofs.YtlkgdfeeepiidaaW.PrintMore
attribute [local go_sem] max2_int min2_int max_two min_two max_three min_three max_four min_four   -- for this text's walks alone
set_option linter.unusedVariables false
set_option linter.unusedSimpArgs false

/-! ### emendationlaw06_MarksBack: function 25 -/
mutual
def emendationlaw06_MarksBack.j0 : Nat → Int → List ByteArray → List ByteArray → List ByteArray → List ByteArray → List ByteArray → Bool → ByteArray → ByteArray → ByteArray → Option (Bool)
  | 0, _, _, _, _, _, _, _, _, _, _ => none
  | k + 1, x0, x2, x3, x4, x5, x6, x53, x102000, x102001, x102002 => if x53 = true then ((emendationlaw06_awake.f k).bind fun t109 => (some t109)) else ((marks_Size.f k x0 (([x2, x3, x4, x5, x6] : List (List ByteArray)))).bind fun t113 => (if t113 = 1000 then (emendationlaw06_MarksBack.j1 k x2 x3 x4 x5 x6 t113 true x102000 x102001 x102002) else ((emendationlaw06_plain.f k x102000).bind fun t114 => (if t114 = true then ((emendationlaw06_plain.f k x102001).bind fun t115 => (if t115 = true then ((emendationlaw06_plain.f k x102002).bind fun t116 => (emendationlaw06_MarksBack.j1 k x2 x3 x4 x5 x6 t113 (!t116) x102000 x102001 x102002)) else (emendationlaw06_MarksBack.j1 k x2 x3 x4 x5 x6 t113 true x102000 x102001 x102002))) else (emendationlaw06_MarksBack.j1 k x2 x3 x4 x5 x6 t113 true x102000 x102001 x102002)))))
def emendationlaw06_MarksBack.j1 : Nat → List ByteArray → List ByteArray → List ByteArray → List ByteArray → List ByteArray → Int → Bool → ByteArray → ByteArray → ByteArray → Option (Bool)
  | 0, _, _, _, _, _, _, _, _, _, _ => none
  | k + 1, x2, x3, x4, x5, x6, x15, x82, x102000, x102001, x102002 => if x82 = true then (if x15 ≥ 7 then (some (decide (x15 ≤ 1000))) else (some false)) else ((some (([] : List ByteArray) : List ByteArray)).bind fun y117 => (if y117.length + x5.length < 8796093022208 then ((some (y117 ++ x5 : List ByteArray)).bind fun y120 => ((marks_Region.f x15 x102000 x102001 x102002 x2 x3 x4).bind fun t123 => (if y120.length + t123.length < 8796093022208 then ((some (y120 ++ t123 : List ByteArray)).bind fun y126 => (if y126.length + x6.length < 8796093022208 then ((some (([x2, x3, x4] : List (List ByteArray)) : List (List ByteArray))).bind fun y132 => (emendationlaw06_MarksBack.l0 k x5 x6 x15 (y126 ++ x6) y132 (y132.length : Int) 0)) else (none))) else (none)))) else (none)))
def emendationlaw06_MarksBack.l0 : Nat → List ByteArray → List ByteArray → Int → List ByteArray → List (List ByteArray) → Int → Int → Option (Bool)
  | 0, _, _, _, _, _, _, _ => none
  | k + 1, x5, x6, x15, x16, x104, x105, x106 => if x106 < x105 then (if 0 ≤ x106 then (if x106 < (x104.length : Int) then ((marks_Choose.f k x15 x16 (wrap64 (x106 + 1))).bind fun bt136 => ((some (([] : List ByteArray) : List ByteArray)).bind fun y140 => (if y140.length + x5.length < 8796093022208 then ((some (y140 ++ x5 : List ByteArray)).bind fun y143 => (if y143.length + (rd_L6 x104 x106).length < 8796093022208 then ((some (y143 ++ (rd_L6 x104 x106) : List ByteArray)).bind fun y146 => (if y146.length + x6.length < 8796093022208 then (if bt136.2 = 0 then ((emendationref02_Same.f k bt136.1 (y146 ++ x6)).bind fun t152 => (if t152 = true then (emendationlaw06_MarksBack.l0 k x5 x6 x15 x16 x104 x105 (wrap64 (x106 + 1))) else (some false))) else (some false)) else (none))) else (none))) else (none)))) else (none)) else (none)) else (some true)
end
def emendationlaw06_MarksBack.f (k : Nat) (a0 : Int) (a1_0 : ByteArray) (a1_1 : ByteArray) (a1_2 : ByteArray) (l2 : List ByteArray) (l3 : List ByteArray) (l4 : List ByteArray) (l5 : List ByteArray) (l6 : List ByteArray) : Option (Bool) := (emendationlaw06_awake.f k).bind fun t102 => (if t102 = true then ((emendationlaw06_few.f k l3).bind fun t103 => (if t103 = true then ((emendationlaw06_few.f k l2).bind fun t104 => (if t104 = true then ((emendationlaw06_few.f k l4).bind fun t105 => (if t105 = true then ((emendationlaw06_few.f k l5).bind fun t106 => (if t106 = true then ((emendationlaw06_few.f k l6).bind fun t107 => (if t107 = true then ((emendationlaw06_named.f a1_0 a1_1 a1_2).bind fun t108 => (emendationlaw06_MarksBack.j0 k a0 l2 l3 l4 l5 l6 (!t108) a1_0 a1_1 a1_2)) else (emendationlaw06_MarksBack.j0 k a0 l2 l3 l4 l5 l6 true a1_0 a1_1 a1_2))) else (emendationlaw06_MarksBack.j0 k a0 l2 l3 l4 l5 l6 true a1_0 a1_1 a1_2))) else (emendationlaw06_MarksBack.j0 k a0 l2 l3 l4 l5 l6 true a1_0 a1_1 a1_2))) else (emendationlaw06_MarksBack.j0 k a0 l2 l3 l4 l5 l6 true a1_0 a1_1 a1_2))) else (emendationlaw06_MarksBack.j0 k a0 l2 l3 l4 l5 l6 true a1_0 a1_1 a1_2))) else (emendationlaw06_MarksBack.j0 k a0 l2 l3 l4 l5 l6 true a1_0 a1_1 a1_2))
theorem emendationlaw06_MarksBack.mono_l : ∀ k, (∀ y0 y1 y2 y3 y4 y5 y6 y7 y8 y9, LeO (emendationlaw06_MarksBack.j0 k y0 y1 y2 y3 y4 y5 y6 y7 y8 y9) (emendationlaw06_MarksBack.j0 (k + 1) y0 y1 y2 y3 y4 y5 y6 y7 y8 y9)) ∧ (∀ y0 y1 y2 y3 y4 y5 y6 y7 y8 y9, LeO (emendationlaw06_MarksBack.j1 k y0 y1 y2 y3 y4 y5 y6 y7 y8 y9) (emendationlaw06_MarksBack.j1 (k + 1) y0 y1 y2 y3 y4 y5 y6 y7 y8 y9)) ∧ (∀ y0 y1 y2 y3 y4 y5 y6, LeO (emendationlaw06_MarksBack.l0 k y0 y1 y2 y3 y4 y5 y6) (emendationlaw06_MarksBack.l0 (k + 1) y0 y1 y2 y3 y4 y5 y6))
  | 0 => ⟨fun _ _ _ _ _ _ _ _ _ _ r h => by simp [emendationlaw06_MarksBack.j0] at h, fun _ _ _ _ _ _ _ _ _ _ r h => by simp [emendationlaw06_MarksBack.j1] at h, fun _ _ _ _ _ _ _ r h => by simp [emendationlaw06_MarksBack.l0] at h⟩
  | k + 1 => by
    obtain ⟨ih0, ih1, ih2⟩ := emendationlaw06_MarksBack.mono_l k
    refine ⟨?_, ?_, ?_⟩
    · intro y0 y1 y2 y3 y4 y5 y6 y7 y8 y9
      unfold emendationlaw06_MarksBack.j0
      repeat' first
      | (with_reducible exact ih0 _ _ _ _ _ _ _ _ _ _)
      | (with_reducible exact ih1 _ _ _ _ _ _ _ _ _ _)
      | (with_reducible exact ih2 _ _ _ _ _ _ _)
      | (with_reducible exact emendationlaw06_awake.mono _)
      | (with_reducible exact emendationlaw06_few.mono _ _)
      | (with_reducible exact emendationlaw06_plain.mono _ _)
      | (with_reducible exact emendationref02_Same.mono _ _ _)
      | (with_reducible exact marks_Choose.mono _ _ _ _)
      | (with_reducible exact marks_Size.mono _ _ _)
      | (with_reducible exact LeO.refl _)
      | (with_reducible exact LeO.none _)
      | (with_reducible refine LeO.ite ?_ ?_)
      | (with_reducible refine LeO.bind ?_ (fun _ => ?_))
      | exact ih0 _ _ _ _ _ _ _ _ _ _
      | exact ih1 _ _ _ _ _ _ _ _ _ _
      | exact ih2 _ _ _ _ _ _ _
      | exact emendationlaw06_awake.mono _
      | exact emendationlaw06_few.mono _ _
      | exact emendationlaw06_plain.mono _ _
      | exact emendationref02_Same.mono _ _ _
      | exact marks_Choose.mono _ _ _ _
      | exact marks_Size.mono _ _ _
      | exact LeO.none _
      | refine LeO.ite ?_ ?_
      | refine LeO.bind ?_ (fun _ => ?_)
    · intro y0 y1 y2 y3 y4 y5 y6 y7 y8 y9
      unfold emendationlaw06_MarksBack.j1
      repeat' first
      | (with_reducible exact ih0 _ _ _ _ _ _ _ _ _ _)
      | (with_reducible exact ih1 _ _ _ _ _ _ _ _ _ _)
      | (with_reducible exact ih2 _ _ _ _ _ _ _)
      | (with_reducible exact emendationlaw06_awake.mono _)
      | (with_reducible exact emendationlaw06_few.mono _ _)
      | (with_reducible exact emendationlaw06_plain.mono _ _)
      | (with_reducible exact emendationref02_Same.mono _ _ _)
      | (with_reducible exact marks_Choose.mono _ _ _ _)
      | (with_reducible exact marks_Size.mono _ _ _)
      | (with_reducible exact LeO.refl _)
      | (with_reducible exact LeO.none _)
      | (with_reducible refine LeO.ite ?_ ?_)
      | (with_reducible refine LeO.bind ?_ (fun _ => ?_))
      | exact ih0 _ _ _ _ _ _ _ _ _ _
      | exact ih1 _ _ _ _ _ _ _ _ _ _
      | exact ih2 _ _ _ _ _ _ _
      | exact emendationlaw06_awake.mono _
      | exact emendationlaw06_few.mono _ _
      | exact emendationlaw06_plain.mono _ _
      | exact emendationref02_Same.mono _ _ _
      | exact marks_Choose.mono _ _ _ _
      | exact marks_Size.mono _ _ _
      | exact LeO.none _
      | refine LeO.ite ?_ ?_
      | refine LeO.bind ?_ (fun _ => ?_)
    · intro y0 y1 y2 y3 y4 y5 y6
      unfold emendationlaw06_MarksBack.l0
      repeat' first
      | (with_reducible exact ih0 _ _ _ _ _ _ _ _ _ _)
      | (with_reducible exact ih1 _ _ _ _ _ _ _ _ _ _)
      | (with_reducible exact ih2 _ _ _ _ _ _ _)
      | (with_reducible exact emendationlaw06_awake.mono _)
      | (with_reducible exact emendationlaw06_few.mono _ _)
      | (with_reducible exact emendationlaw06_plain.mono _ _)
      | (with_reducible exact emendationref02_Same.mono _ _ _)
      | (with_reducible exact marks_Choose.mono _ _ _ _)
      | (with_reducible exact marks_Size.mono _ _ _)
      | (with_reducible exact LeO.refl _)
      | (with_reducible exact LeO.none _)
      | (with_reducible refine LeO.ite ?_ ?_)
      | (with_reducible refine LeO.bind ?_ (fun _ => ?_))
      | exact ih0 _ _ _ _ _ _ _ _ _ _
      | exact ih1 _ _ _ _ _ _ _ _ _ _
      | exact ih2 _ _ _ _ _ _ _
      | exact emendationlaw06_awake.mono _
      | exact emendationlaw06_few.mono _ _
      | exact emendationlaw06_plain.mono _ _
      | exact emendationref02_Same.mono _ _ _
      | exact marks_Choose.mono _ _ _ _
      | exact marks_Size.mono _ _ _
      | exact LeO.none _
      | refine LeO.ite ?_ ?_
      | refine LeO.bind ?_ (fun _ => ?_)
theorem emendationlaw06_MarksBack.mono : ∀ a0 a1 a2 a3 a4 a5 a6 a7 a8 k, LeO (emendationlaw06_MarksBack.f k a0 a1 a2 a3 a4 a5 a6 a7 a8) (emendationlaw06_MarksBack.f (k + 1) a0 a1 a2 a3 a4 a5 a6 a7 a8) := by
  intro a0 a1 a2 a3 a4 a5 a6 a7 a8 k
  obtain ⟨ih0, ih1, ih2⟩ := emendationlaw06_MarksBack.mono_l k
  unfold emendationlaw06_MarksBack.f
  repeat' first
      | (with_reducible exact ih0 _ _ _ _ _ _ _ _ _ _)
      | (with_reducible exact ih1 _ _ _ _ _ _ _ _ _ _)
      | (with_reducible exact ih2 _ _ _ _ _ _ _)
      | (with_reducible exact emendationlaw06_awake.mono _)
      | (with_reducible exact emendationlaw06_few.mono _ _)
      | (with_reducible exact emendationlaw06_plain.mono _ _)
      | (with_reducible exact emendationref02_Same.mono _ _ _)
      | (with_reducible exact marks_Choose.mono _ _ _ _)
      | (with_reducible exact marks_Size.mono _ _ _)
      | (with_reducible exact LeO.refl _)
      | (with_reducible exact LeO.none _)
      | (with_reducible refine LeO.ite ?_ ?_)
      | (with_reducible refine LeO.bind ?_ (fun _ => ?_))
      | exact ih0 _ _ _ _ _ _ _ _ _ _
      | exact ih1 _ _ _ _ _ _ _ _ _ _
      | exact ih2 _ _ _ _ _ _ _
      | exact emendationlaw06_awake.mono _
      | exact emendationlaw06_few.mono _ _
      | exact emendationlaw06_plain.mono _ _
      | exact emendationref02_Same.mono _ _ _
      | exact marks_Choose.mono _ _ _ _
      | exact marks_Size.mono _ _ _
      | exact LeO.none _
      | refine LeO.ite ?_ ?_
      | refine LeO.bind ?_ (fun _ => ?_)
def emendationlaw06_MarksBack.T6 : Bool × List (List Nat × List Nat) := (true, [([], []), ([], []), ([0, 1], [0, 1]), ([], []), ([], []), ([], []), ([], []), ([], []), ([3, 4, 5, 6, 7, 2], [3, 4, 5, 6, 7]), ([2, 8, 8], [2, 8]), ([], []), ([9, 10, 9], [9, 10]), ([11, 11, 0, 1, 2, 3, 4, 5, 6, 7, 8, 9, 10, 11], [11])])
def emendationlaw06_MarksBack.B6 : List Nat := [0, 0, 3, 0, 0, 0, 0, 0, 255, 511, 0, 2047, 4095]
theorem emendationlaw06_MarksBack.tab6 : rtab .any (opsOf Try.f25 6) = emendationlaw06_MarksBack.T6 := by kernel_rfl
theorem emendationlaw06_MarksBack.bits6 : waitsOk emendationlaw06_MarksBack.T6.2 emendationlaw06_MarksBack.B6 = true := by kernel_rfl
set_option maxHeartbeats 8000000 in
set_option maxRecDepth 100000 in
theorem emendationlaw06_MarksBack.calls (k : Nat) (a0 : Int) (a1_0 : ByteArray) (a1_1 : ByteArray) (a1_2 : ByteArray) (P2_ : Nat → Prop) (A2 : Option Addr) (c2 : Nat) (l2 : List ByteArray) (P3_ : Nat → Prop) (A3 : Option Addr) (c3 : Nat) (l3 : List ByteArray) (P4_ : Nat → Prop) (A4 : Option Addr) (c4 : Nat) (l4 : List ByteArray) (P5_ : Nat → Prop) (A5 : Option Addr) (c5 : Nat) (l5 : List ByteArray) (P6_ : Nat → Prop) (A6 : Option Addr) (c6 : Nat) (l6 : List ByteArray) (r : Bool) (w : World) (hs2 : Kd.V Kd.string 9 w w.heap.size (fun k_ => P2_ k_) (.slice A2 l2.length c2) l2) (hs3 : Kd.V Kd.string 9 w w.heap.size (fun k_ => P3_ k_) (.slice A3 l3.length c3) l3) (hs4 : Kd.V Kd.string 9 w w.heap.size (fun k_ => P4_ k_) (.slice A4 l4.length c4) l4) (hs5 : Kd.V Kd.string 9 w w.heap.size (fun k_ => P5_ k_) (.slice A5 l5.length c5) l5) (hs6 : Kd.V Kd.string 9 w w.heap.size (fun k_ => P6_ k_) (.slice A6 l6.length c6) l6) (h : emendationlaw06_MarksBack.f k a0 a1_0 a1_1 a1_2 l2 l3 l4 l5 l6 = some r) :
    Calls Try.prog 25 #[.int .i64 a0, .agg #[.string a1_0, .string a1_1, .string a1_2], .slice A2 l2.length c2, .slice A3 l3.length c3, .slice A4 l4.length c4, .slice A5 l5.length c5, .slice A6 l6.length c6] w fun e w' => e = .returned (.bool r) ∧ Below w.heap.size w w' := by
  have hu47 := Try.underlying47
  have HO2 := Aside0.mk (show Kd.V Kd.string 9 w w.heap.size (fun k_ => ((P2_ k_ ∨ P3_ k_ ∨ P4_ k_ ∨ P5_ k_ ∨ P6_ k_) ∨ w.heap.size ≤ k_)) (.slice A2 l2.length c2) l2 from Kd.V_mono hs2 (fun k_ hk => .inl (.inl hk)))
  have HO3 := Aside0.mk (show Kd.V Kd.string 9 w w.heap.size (fun k_ => ((P2_ k_ ∨ P3_ k_ ∨ P4_ k_ ∨ P5_ k_ ∨ P6_ k_) ∨ w.heap.size ≤ k_)) (.slice A3 l3.length c3) l3 from Kd.V_mono hs3 (fun k_ hk => .inl (.inr (.inl hk))))
  have HO4 := Aside0.mk (show Kd.V Kd.string 9 w w.heap.size (fun k_ => ((P2_ k_ ∨ P3_ k_ ∨ P4_ k_ ∨ P5_ k_ ∨ P6_ k_) ∨ w.heap.size ≤ k_)) (.slice A4 l4.length c4) l4 from Kd.V_mono hs4 (fun k_ hk => .inl (.inr (.inr (.inl hk)))))
  have HO5 := Aside0.mk (show Kd.V Kd.string 9 w w.heap.size (fun k_ => ((P2_ k_ ∨ P3_ k_ ∨ P4_ k_ ∨ P5_ k_ ∨ P6_ k_) ∨ w.heap.size ≤ k_)) (.slice A5 l5.length c5) l5 from Kd.V_mono hs5 (fun k_ hk => .inl (.inr (.inr (.inr (.inl hk))))))
  have HO6 := Aside0.mk (show Kd.V Kd.string 9 w w.heap.size (fun k_ => ((P2_ k_ ∨ P3_ k_ ∨ P4_ k_ ∨ P5_ k_ ∨ P6_ k_) ∨ w.heap.size ≤ k_)) (.slice A6 l6.length c6) l6 from Kd.V_mono hs6 (fun k_ hk => .inl (.inr (.inr (.inr (.inr hk))))))
  have HB := Aside0.mk (Below.refl w.heap.size w)
  have H : ((emendationlaw06_awake.f k).bind fun t102 => (if t102 = true then ((emendationlaw06_few.f k l3).bind fun t103 => (if t103 = true then ((emendationlaw06_few.f k l2).bind fun t104 => (if t104 = true then ((emendationlaw06_few.f k l4).bind fun t105 => (if t105 = true then ((emendationlaw06_few.f k l5).bind fun t106 => (if t106 = true then ((emendationlaw06_few.f k l6).bind fun t107 => (if t107 = true then ((emendationlaw06_named.f a1_0 a1_1 a1_2).bind fun t108 => (emendationlaw06_MarksBack.j0 k a0 l2 l3 l4 l5 l6 (!t108) a1_0 a1_1 a1_2)) else (emendationlaw06_MarksBack.j0 k a0 l2 l3 l4 l5 l6 true a1_0 a1_1 a1_2))) else (emendationlaw06_MarksBack.j0 k a0 l2 l3 l4 l5 l6 true a1_0 a1_1 a1_2))) else (emendationlaw06_MarksBack.j0 k a0 l2 l3 l4 l5 l6 true a1_0 a1_1 a1_2))) else (emendationlaw06_MarksBack.j0 k a0 l2 l3 l4 l5 l6 true a1_0 a1_1 a1_2))) else (emendationlaw06_MarksBack.j0 k a0 l2 l3 l4 l5 l6 true a1_0 a1_1 a1_2))) else (emendationlaw06_MarksBack.j0 k a0 l2 l3 l4 l5 l6 true a1_0 a1_1 a1_2))) = some r := h
  clear h
  have HC8 := Aside0.mk H
  clear H
  go_enter Try.func25, Try.ntmps25
  go_upto_region 1 with (first | ((with_reducible refine gate_dst (N := 8) rfl ?_); refine box_event ?hg (N := 8) ?hd (cs := #[.string a1_0, .string a1_1, .string a1_2]) (t := 47) ?hr ?_; (case hd => rfl); (case hg => rfl); (case hr => first | (go_simp; done) | (go_simp; rfl)); intro gb101 hg w9 hbox hb; have n0_ := Aside0.mk (Kd.V_below (Kd.V_elderB (by (with_reducible repeat (first | apply Kd.V_alloc | apply Kd.V_drewN | apply Kd.V_drew)); exact HO2.out) gb101 (Nat.le_of_eq hg.symm)) hb); have n1_ := Aside0.mk (Kd.V_below (Kd.V_elderB (by (with_reducible repeat (first | apply Kd.V_alloc | apply Kd.V_drewN | apply Kd.V_drew)); exact HO3.out) gb101 (Nat.le_of_eq hg.symm)) hb); have n2_ := Aside0.mk (Kd.V_below (Kd.V_elderB (by (with_reducible repeat (first | apply Kd.V_alloc | apply Kd.V_drewN | apply Kd.V_drew)); exact HO4.out) gb101 (Nat.le_of_eq hg.symm)) hb); have n3_ := Aside0.mk (Kd.V_below (Kd.V_elderB (by (with_reducible repeat (first | apply Kd.V_alloc | apply Kd.V_drewN | apply Kd.V_drew)); exact HO5.out) gb101 (Nat.le_of_eq hg.symm)) hb); have n4_ := Aside0.mk (Kd.V_below (Kd.V_elderB (by (with_reducible repeat (first | apply Kd.V_alloc | apply Kd.V_drewN | apply Kd.V_drew)); exact HO6.out) gb101 (Nat.le_of_eq hg.symm)) hb); have n5_ := Aside0.mk (below_step (by repeat (first | (with_reducible first | exact HB.out | apply below_alloc | apply pw_below_drewN | apply below_drew1) | exact HB.out)) hb); have n6_ := Aside0.mk (hbox); have n7_ := Aside0.mk ((by rw [hg]; exact (below_size (by repeat (first | (with_reducible first | exact HB.out | apply below_alloc | apply pw_below_drewN | apply below_drew1) | exact HB.out))) : w.heap.size ≤ gb101)); have n8_ := Aside0.mk ((by rw [hg]; exact (below_size (by repeat (first | (with_reducible first | exact HB.out | apply below_alloc | apply pw_below_drewN | apply below_drew1) | exact HB.out))) : w.heap.size ≤ gb101)); clear HO2; clear HO3; clear HO4; clear HO5; clear HO6; clear HB; have HO2 := n0_; have HO3 := n1_; have HO4 := n2_; have HO5 := n3_; have HO6 := n4_; have HB := n5_; have BK101 := n6_; have GW101 := n7_; have GE101 := n8_; clear n0_ n1_ n2_ n3_ n4_ n5_ n6_ n7_ n8_; clear hb hbox hg))
  (try simp only [Act.put, List.setIfInBounds_toArray, List.set_cons_zero, List.set_cons_succ])
  go_cut [53] (fun v53 wc => ∃ (kq : Nat) (x53_7 : Bool), v53 = .bool x53_7 ∧ Aside0 (emendationlaw06_MarksBack.j0 kq a0 l2 l3 l4 l5 l6 x53_7 a1_0 a1_1 a1_2 = some r) ∧ Aside0 (kq ≤ k) ∧ Aside0 (Kd.V Kd.string 9 wc w.heap.size (fun k_ => ((P2_ k_ ∨ P3_ k_ ∨ P4_ k_ ∨ P5_ k_ ∨ P6_ k_) ∨ w.heap.size ≤ k_) ∧ k_ ≠ gb101) (.slice A2 l2.length c2) l2) ∧ Aside0 (Kd.V Kd.string 9 wc w.heap.size (fun k_ => ((P2_ k_ ∨ P3_ k_ ∨ P4_ k_ ∨ P5_ k_ ∨ P6_ k_) ∨ w.heap.size ≤ k_) ∧ k_ ≠ gb101) (.slice A3 l3.length c3) l3) ∧ Aside0 (Kd.V Kd.string 9 wc w.heap.size (fun k_ => ((P2_ k_ ∨ P3_ k_ ∨ P4_ k_ ∨ P5_ k_ ∨ P6_ k_) ∨ w.heap.size ≤ k_) ∧ k_ ≠ gb101) (.slice A4 l4.length c4) l4) ∧ Aside0 (Kd.V Kd.string 9 wc w.heap.size (fun k_ => ((P2_ k_ ∨ P3_ k_ ∨ P4_ k_ ∨ P5_ k_ ∨ P6_ k_) ∨ w.heap.size ≤ k_) ∧ k_ ≠ gb101) (.slice A5 l5.length c5) l5) ∧ Aside0 (Kd.V Kd.string 9 wc w.heap.size (fun k_ => ((P2_ k_ ∨ P3_ k_ ∨ P4_ k_ ∨ P5_ k_ ∨ P6_ k_) ∨ w.heap.size ≤ k_) ∧ k_ ≠ gb101) (.slice A6 l6.length c6) l6) ∧ Aside0 (wc.heap[gb101]? = some (.cells #[.string a1_0, .string a1_1, .string a1_2] 47 (0, 0))) ∧ Aside0 (Below w.heap.size w wc))
  case first =>
    have H := HC8.out
    clear HC8
    replace H := Option.bind_eq_some_iff.mp H
    obtain ⟨t102, A100, H⟩ := H
    replace H : (if t102 = true then ((emendationlaw06_few.f k l3).bind fun t103 => (if t103 = true then ((emendationlaw06_few.f k l2).bind fun t104 => (if t104 = true then ((emendationlaw06_few.f k l4).bind fun t105 => (if t105 = true then ((emendationlaw06_few.f k l5).bind fun t106 => (if t106 = true then ((emendationlaw06_few.f k l6).bind fun t107 => (if t107 = true then ((emendationlaw06_named.f a1_0 a1_1 a1_2).bind fun t108 => (emendationlaw06_MarksBack.j0 k a0 l2 l3 l4 l5 l6 (!t108) a1_0 a1_1 a1_2)) else (emendationlaw06_MarksBack.j0 k a0 l2 l3 l4 l5 l6 true a1_0 a1_1 a1_2))) else (emendationlaw06_MarksBack.j0 k a0 l2 l3 l4 l5 l6 true a1_0 a1_1 a1_2))) else (emendationlaw06_MarksBack.j0 k a0 l2 l3 l4 l5 l6 true a1_0 a1_1 a1_2))) else (emendationlaw06_MarksBack.j0 k a0 l2 l3 l4 l5 l6 true a1_0 a1_1 a1_2))) else (emendationlaw06_MarksBack.j0 k a0 l2 l3 l4 l5 l6 true a1_0 a1_1 a1_2))) else (emendationlaw06_MarksBack.j0 k a0 l2 l3 l4 l5 l6 true a1_0 a1_1 a1_2)) = some r := H
    have A10 := Aside0.mk A100
    clear A100
    by_cases c11 : t102 = true
    · subst c11
      have H1 : ((emendationlaw06_few.f k l3).bind fun t103 => (if t103 = true then ((emendationlaw06_few.f k l2).bind fun t104 => (if t104 = true then ((emendationlaw06_few.f k l4).bind fun t105 => (if t105 = true then ((emendationlaw06_few.f k l5).bind fun t106 => (if t106 = true then ((emendationlaw06_few.f k l6).bind fun t107 => (if t107 = true then ((emendationlaw06_named.f a1_0 a1_1 a1_2).bind fun t108 => (emendationlaw06_MarksBack.j0 k a0 l2 l3 l4 l5 l6 (!t108) a1_0 a1_1 a1_2)) else (emendationlaw06_MarksBack.j0 k a0 l2 l3 l4 l5 l6 true a1_0 a1_1 a1_2))) else (emendationlaw06_MarksBack.j0 k a0 l2 l3 l4 l5 l6 true a1_0 a1_1 a1_2))) else (emendationlaw06_MarksBack.j0 k a0 l2 l3 l4 l5 l6 true a1_0 a1_1 a1_2))) else (emendationlaw06_MarksBack.j0 k a0 l2 l3 l4 l5 l6 true a1_0 a1_1 a1_2))) else (emendationlaw06_MarksBack.j0 k a0 l2 l3 l4 l5 l6 true a1_0 a1_1 a1_2))) = some r := by rw [if_pos rfl] at H; exact H
      clear H
      have H := H1
      clear H1
      replace H := Option.bind_eq_some_iff.mp H
      obtain ⟨t103, A120, H⟩ := H
      replace H : (if t103 = true then ((emendationlaw06_few.f k l2).bind fun t104 => (if t104 = true then ((emendationlaw06_few.f k l4).bind fun t105 => (if t105 = true then ((emendationlaw06_few.f k l5).bind fun t106 => (if t106 = true then ((emendationlaw06_few.f k l6).bind fun t107 => (if t107 = true then ((emendationlaw06_named.f a1_0 a1_1 a1_2).bind fun t108 => (emendationlaw06_MarksBack.j0 k a0 l2 l3 l4 l5 l6 (!t108) a1_0 a1_1 a1_2)) else (emendationlaw06_MarksBack.j0 k a0 l2 l3 l4 l5 l6 true a1_0 a1_1 a1_2))) else (emendationlaw06_MarksBack.j0 k a0 l2 l3 l4 l5 l6 true a1_0 a1_1 a1_2))) else (emendationlaw06_MarksBack.j0 k a0 l2 l3 l4 l5 l6 true a1_0 a1_1 a1_2))) else (emendationlaw06_MarksBack.j0 k a0 l2 l3 l4 l5 l6 true a1_0 a1_1 a1_2))) else (emendationlaw06_MarksBack.j0 k a0 l2 l3 l4 l5 l6 true a1_0 a1_1 a1_2)) = some r := H
      have A12 := Aside0.mk A120
      clear A120
      by_cases c13 : t103 = true
      · subst c13
        have H1 : ((emendationlaw06_few.f k l2).bind fun t104 => (if t104 = true then ((emendationlaw06_few.f k l4).bind fun t105 => (if t105 = true then ((emendationlaw06_few.f k l5).bind fun t106 => (if t106 = true then ((emendationlaw06_few.f k l6).bind fun t107 => (if t107 = true then ((emendationlaw06_named.f a1_0 a1_1 a1_2).bind fun t108 => (emendationlaw06_MarksBack.j0 k a0 l2 l3 l4 l5 l6 (!t108) a1_0 a1_1 a1_2)) else (emendationlaw06_MarksBack.j0 k a0 l2 l3 l4 l5 l6 true a1_0 a1_1 a1_2))) else (emendationlaw06_MarksBack.j0 k a0 l2 l3 l4 l5 l6 true a1_0 a1_1 a1_2))) else (emendationlaw06_MarksBack.j0 k a0 l2 l3 l4 l5 l6 true a1_0 a1_1 a1_2))) else (emendationlaw06_MarksBack.j0 k a0 l2 l3 l4 l5 l6 true a1_0 a1_1 a1_2))) = some r := by rw [if_pos rfl] at H; exact H
        clear H
        have H := H1
        clear H1
        replace H := Option.bind_eq_some_iff.mp H
        obtain ⟨t104, A140, H⟩ := H
        replace H : (if t104 = true then ((emendationlaw06_few.f k l4).bind fun t105 => (if t105 = true then ((emendationlaw06_few.f k l5).bind fun t106 => (if t106 = true then ((emendationlaw06_few.f k l6).bind fun t107 => (if t107 = true then ((emendationlaw06_named.f a1_0 a1_1 a1_2).bind fun t108 => (emendationlaw06_MarksBack.j0 k a0 l2 l3 l4 l5 l6 (!t108) a1_0 a1_1 a1_2)) else (emendationlaw06_MarksBack.j0 k a0 l2 l3 l4 l5 l6 true a1_0 a1_1 a1_2))) else (emendationlaw06_MarksBack.j0 k a0 l2 l3 l4 l5 l6 true a1_0 a1_1 a1_2))) else (emendationlaw06_MarksBack.j0 k a0 l2 l3 l4 l5 l6 true a1_0 a1_1 a1_2))) else (emendationlaw06_MarksBack.j0 k a0 l2 l3 l4 l5 l6 true a1_0 a1_1 a1_2)) = some r := H
        have A14 := Aside0.mk A140
        clear A140
        by_cases c15 : t104 = true
        · subst c15
          have H1 : ((emendationlaw06_few.f k l4).bind fun t105 => (if t105 = true then ((emendationlaw06_few.f k l5).bind fun t106 => (if t106 = true then ((emendationlaw06_few.f k l6).bind fun t107 => (if t107 = true then ((emendationlaw06_named.f a1_0 a1_1 a1_2).bind fun t108 => (emendationlaw06_MarksBack.j0 k a0 l2 l3 l4 l5 l6 (!t108) a1_0 a1_1 a1_2)) else (emendationlaw06_MarksBack.j0 k a0 l2 l3 l4 l5 l6 true a1_0 a1_1 a1_2))) else (emendationlaw06_MarksBack.j0 k a0 l2 l3 l4 l5 l6 true a1_0 a1_1 a1_2))) else (emendationlaw06_MarksBack.j0 k a0 l2 l3 l4 l5 l6 true a1_0 a1_1 a1_2))) = some r := by rw [if_pos rfl] at H; exact H
          clear H
          have H := H1
          clear H1
          replace H := Option.bind_eq_some_iff.mp H
          obtain ⟨t105, A160, H⟩ := H
          replace H : (if t105 = true then ((emendationlaw06_few.f k l5).bind fun t106 => (if t106 = true then ((emendationlaw06_few.f k l6).bind fun t107 => (if t107 = true then ((emendationlaw06_named.f a1_0 a1_1 a1_2).bind fun t108 => (emendationlaw06_MarksBack.j0 k a0 l2 l3 l4 l5 l6 (!t108) a1_0 a1_1 a1_2)) else (emendationlaw06_MarksBack.j0 k a0 l2 l3 l4 l5 l6 true a1_0 a1_1 a1_2))) else (emendationlaw06_MarksBack.j0 k a0 l2 l3 l4 l5 l6 true a1_0 a1_1 a1_2))) else (emendationlaw06_MarksBack.j0 k a0 l2 l3 l4 l5 l6 true a1_0 a1_1 a1_2)) = some r := H
          have A16 := Aside0.mk A160
          clear A160
          by_cases c17 : t105 = true
          · subst c17
            have H1 : ((emendationlaw06_few.f k l5).bind fun t106 => (if t106 = true then ((emendationlaw06_few.f k l6).bind fun t107 => (if t107 = true then ((emendationlaw06_named.f a1_0 a1_1 a1_2).bind fun t108 => (emendationlaw06_MarksBack.j0 k a0 l2 l3 l4 l5 l6 (!t108) a1_0 a1_1 a1_2)) else (emendationlaw06_MarksBack.j0 k a0 l2 l3 l4 l5 l6 true a1_0 a1_1 a1_2))) else (emendationlaw06_MarksBack.j0 k a0 l2 l3 l4 l5 l6 true a1_0 a1_1 a1_2))) = some r := by rw [if_pos rfl] at H; exact H
            clear H
            have H := H1
            clear H1
            replace H := Option.bind_eq_some_iff.mp H
            obtain ⟨t106, A180, H⟩ := H
            replace H : (if t106 = true then ((emendationlaw06_few.f k l6).bind fun t107 => (if t107 = true then ((emendationlaw06_named.f a1_0 a1_1 a1_2).bind fun t108 => (emendationlaw06_MarksBack.j0 k a0 l2 l3 l4 l5 l6 (!t108) a1_0 a1_1 a1_2)) else (emendationlaw06_MarksBack.j0 k a0 l2 l3 l4 l5 l6 true a1_0 a1_1 a1_2))) else (emendationlaw06_MarksBack.j0 k a0 l2 l3 l4 l5 l6 true a1_0 a1_1 a1_2)) = some r := H
            have A18 := Aside0.mk A180
            clear A180
            by_cases c19 : t106 = true
            · subst c19
              have H1 : ((emendationlaw06_few.f k l6).bind fun t107 => (if t107 = true then ((emendationlaw06_named.f a1_0 a1_1 a1_2).bind fun t108 => (emendationlaw06_MarksBack.j0 k a0 l2 l3 l4 l5 l6 (!t108) a1_0 a1_1 a1_2)) else (emendationlaw06_MarksBack.j0 k a0 l2 l3 l4 l5 l6 true a1_0 a1_1 a1_2))) = some r := by rw [if_pos rfl] at H; exact H
              clear H
              have H := H1
              clear H1
              replace H := Option.bind_eq_some_iff.mp H
              obtain ⟨t107, A200, H⟩ := H
              replace H : (if t107 = true then ((emendationlaw06_named.f a1_0 a1_1 a1_2).bind fun t108 => (emendationlaw06_MarksBack.j0 k a0 l2 l3 l4 l5 l6 (!t108) a1_0 a1_1 a1_2)) else (emendationlaw06_MarksBack.j0 k a0 l2 l3 l4 l5 l6 true a1_0 a1_1 a1_2)) = some r := H
              have A20 := Aside0.mk A200
              clear A200
              by_cases c21 : t107 = true
              · subst c21
                have H1 : ((emendationlaw06_named.f a1_0 a1_1 a1_2).bind fun t108 => (emendationlaw06_MarksBack.j0 k a0 l2 l3 l4 l5 l6 (!t108) a1_0 a1_1 a1_2)) = some r := by rw [if_pos rfl] at H; exact H
                clear H
                have H := H1
                clear H1
                replace H := Option.bind_eq_some_iff.mp H
                obtain ⟨t108, A220, H⟩ := H
                replace H : (emendationlaw06_MarksBack.j0 k a0 l2 l3 l4 l5 l6 (!t108) a1_0 a1_1 a1_2) = some r := H
                have A22 := Aside0.mk A220
                clear A220
                have H' := Aside0.mk H
                clear H
                go_wp2_with (first | ((with_reducible refine gate_callee (f := 39) rfl ?_); refine goesL_ (some 22) rfl rfl Try.func39 (by kernel_rfl) rfl #[] rfl (by (try simp only [List.map_toArray, List.map_cons, List.map_nil]); first | done | rfl | (simp only [List.length_drop, List.length_take]; rfl)) ?_; (with_reducible refine (emendationlaw06_awake.calls k  true _ A10.out).mono ?_); rintro e w23 ⟨rfl, hb⟩; refine ⟨_, rfl, ?_⟩; have n0_ := Aside0.mk (Kd.V_below (by (with_reducible repeat (first | apply Kd.V_alloc | apply Kd.V_drewN | apply Kd.V_drew)); exact HO2.out) hb); have n1_ := Aside0.mk (Kd.V_below (by (with_reducible repeat (first | apply Kd.V_alloc | apply Kd.V_drewN | apply Kd.V_drew)); exact HO3.out) hb); have n2_ := Aside0.mk (Kd.V_below (by (with_reducible repeat (first | apply Kd.V_alloc | apply Kd.V_drewN | apply Kd.V_drew)); exact HO4.out) hb); have n3_ := Aside0.mk (Kd.V_below (by (with_reducible repeat (first | apply Kd.V_alloc | apply Kd.V_drewN | apply Kd.V_drew)); exact HO5.out) hb); have n4_ := Aside0.mk (Kd.V_below (by (with_reducible repeat (first | apply Kd.V_alloc | apply Kd.V_drewN | apply Kd.V_drew)); exact HO6.out) hb); have n5_ := Aside0.mk (blk_below (g := gb101) (o := .cells #[.string a1_0, .string a1_1, .string a1_2] 47 (0, 0)) (by (with_reducible repeat (first | refine blk_drewN ?_ _ | refine blk_drew ?_ | refine blk_alloc ?_ _)); exact BK101.out) hb); have n6_ := Aside0.mk (below_step (by repeat (first | (with_reducible first | exact HB.out | apply below_alloc | apply pw_below_drewN | apply below_drew1 | refine below_set ?_ GE101.out) | exact HB.out)) hb); clear HO2; clear HO3; clear HO4; clear HO5; clear HO6; clear BK101; clear HB; have HO2 := n0_; have HO3 := n1_; have HO4 := n2_; have HO5 := n3_; have HO6 := n4_; have BK101 := n5_; have HB := n6_; clear n0_ n1_ n2_ n3_ n4_ n5_ n6_; (try clear hb); (try clear hb2); (try clear hk); (try clear hi)) | (go_at_call 40; (with_reducible refine (emendationlaw06_few.calls k _ _ l3 true _ ?side1 ?side2 A12.out).mono ?_); (case side1 => repeat (first | exact (Kd.V_reads' HO3.out).2.2 | (with_reducible refine Kd.C_alloc ?_ _) | (with_reducible refine Kd.C_drewN ?_ _) | (with_reducible refine Kd.C_drew ?_))); (case side2 => exact (Kd.V_reads' HO3.out).2.1); rintro e w' ⟨rfl, ⟨nd, rfl⟩⟩) | (go_at_call 40; (with_reducible refine (emendationlaw06_few.calls k _ _ l2 true _ ?side1 ?side2 A14.out).mono ?_); (case side1 => repeat (first | exact (Kd.V_reads' HO2.out).2.2 | (with_reducible refine Kd.C_alloc ?_ _) | (with_reducible refine Kd.C_drewN ?_ _) | (with_reducible refine Kd.C_drew ?_))); (case side2 => exact (Kd.V_reads' HO2.out).2.1); rintro e w' ⟨rfl, ⟨nd, rfl⟩⟩) | (go_at_call 40; (with_reducible refine (emendationlaw06_few.calls k _ _ l4 true _ ?side1 ?side2 A16.out).mono ?_); (case side1 => repeat (first | exact (Kd.V_reads' HO4.out).2.2 | (with_reducible refine Kd.C_alloc ?_ _) | (with_reducible refine Kd.C_drewN ?_ _) | (with_reducible refine Kd.C_drew ?_))); (case side2 => exact (Kd.V_reads' HO4.out).2.1); rintro e w' ⟨rfl, ⟨nd, rfl⟩⟩) | (go_at_call 40; (with_reducible refine (emendationlaw06_few.calls k _ _ l5 true _ ?side1 ?side2 A18.out).mono ?_); (case side1 => repeat (first | exact (Kd.V_reads' HO5.out).2.2 | (with_reducible refine Kd.C_alloc ?_ _) | (with_reducible refine Kd.C_drewN ?_ _) | (with_reducible refine Kd.C_drew ?_))); (case side2 => exact (Kd.V_reads' HO5.out).2.1); rintro e w' ⟨rfl, ⟨nd, rfl⟩⟩) | (go_at_call 40; (with_reducible refine (emendationlaw06_few.calls k _ _ l6 true _ ?side1 ?side2 A20.out).mono ?_); (case side1 => repeat (first | exact (Kd.V_reads' HO6.out).2.2 | (with_reducible refine Kd.C_alloc ?_ _) | (with_reducible refine Kd.C_drewN ?_ _) | (with_reducible refine Kd.C_drew ?_))); (case side2 => exact (Kd.V_reads' HO6.out).2.1); rintro e w' ⟨rfl, ⟨nd, rfl⟩⟩; have hcz24_0 : w23.cell? ⟨gb101, 0, none⟩ = some (.string a1_0) := (blk_cell BK101.out 0).trans rfl; have hcz24_1 : w23.cell? ⟨gb101, 1, none⟩ = some (.string a1_1) := (blk_cell BK101.out 1).trans rfl; have hcz24_2 : w23.cell? ⟨gb101, 2, none⟩ = some (.string a1_2) := (blk_cell BK101.out 2).trans rfl; have hfz24_0 := blk_frozen BK101.out 0; have hfz24_1 := blk_frozen BK101.out 1; have hfz24_2 := blk_frozen BK101.out 2) | (go_at_call 45; (with_reducible refine (emendationlaw06_named.calls a1_0 a1_1 a1_2 t108 _ A22.out).mono ?_); rintro e w25 ⟨rfl, hb⟩; have n0_ := Aside0.mk (Kd.V_below (by (with_reducible repeat (first | apply Kd.V_alloc | apply Kd.V_drewN | apply Kd.V_drew)); exact HO2.out) hb); have n1_ := Aside0.mk (Kd.V_below (by (with_reducible repeat (first | apply Kd.V_alloc | apply Kd.V_drewN | apply Kd.V_drew)); exact HO3.out) hb); have n2_ := Aside0.mk (Kd.V_below (by (with_reducible repeat (first | apply Kd.V_alloc | apply Kd.V_drewN | apply Kd.V_drew)); exact HO4.out) hb); have n3_ := Aside0.mk (Kd.V_below (by (with_reducible repeat (first | apply Kd.V_alloc | apply Kd.V_drewN | apply Kd.V_drew)); exact HO5.out) hb); have n4_ := Aside0.mk (Kd.V_below (by (with_reducible repeat (first | apply Kd.V_alloc | apply Kd.V_drewN | apply Kd.V_drew)); exact HO6.out) hb); have n5_ := Aside0.mk (blk_below (g := gb101) (o := .cells #[.string a1_0, .string a1_1, .string a1_2] 47 (0, 0)) (by (with_reducible repeat (first | refine blk_drewN ?_ _ | refine blk_drew ?_ | refine blk_alloc ?_ _)); exact BK101.out) hb); have n6_ := Aside0.mk (below_step (by repeat (first | (with_reducible first | exact HB.out | apply below_alloc | apply pw_below_drewN | apply below_drew1 | refine below_set ?_ GE101.out) | exact HB.out)) hb); clear HO2; clear HO3; clear HO4; clear HO5; clear HO6; clear BK101; clear HB; have HO2 := n0_; have HO3 := n1_; have HO4 := n2_; have HO5 := n3_; have HO6 := n4_; have BK101 := n5_; have HB := n6_; clear n0_ n1_ n2_ n3_ n4_ n5_ n6_; (try clear hb); (try clear hb2); (try clear hk); (try clear hi)))
                go_meet
                case rel => exact ⟨_, (!t108), (by first | rfl | (simp; done) | (simp [*]; done)), H', ⟨by first | omega | exact Nat.le_refl _⟩, ⟨by (with_reducible repeat (first | apply Kd.V_alloc | apply Kd.V_drewN | apply Kd.V_drew)); exact HO2.out⟩, ⟨by (with_reducible repeat (first | apply Kd.V_alloc | apply Kd.V_drewN | apply Kd.V_drew)); exact HO3.out⟩, ⟨by (with_reducible repeat (first | apply Kd.V_alloc | apply Kd.V_drewN | apply Kd.V_drew)); exact HO4.out⟩, ⟨by (with_reducible repeat (first | apply Kd.V_alloc | apply Kd.V_drewN | apply Kd.V_drew)); exact HO5.out⟩, ⟨by (with_reducible repeat (first | apply Kd.V_alloc | apply Kd.V_drewN | apply Kd.V_drew)); exact HO6.out⟩, ⟨by (with_reducible repeat (first | refine blk_drewN ?_ _ | refine blk_drew ?_ | refine blk_alloc ?_ _)); exact BK101.out⟩, ⟨by repeat (first | (with_reducible first | exact HB.out | apply below_alloc | apply pw_below_drewN | apply below_drew1 | refine below_set ?_ GE101.out) | exact HB.out)⟩⟩
              · replace c21 := Bool.eq_false_iff.mpr c21
                subst c21
                have H1 : (emendationlaw06_MarksBack.j0 k a0 l2 l3 l4 l5 l6 true a1_0 a1_1 a1_2) = some r := by rw [if_neg (show ¬ (false = true) by decide)] at H; exact H
                clear H
                have H := H1
                clear H1
                have H' := Aside0.mk H
                clear H
                go_wp2_with (first | ((with_reducible refine gate_callee (f := 39) rfl ?_); refine goesL_ (some 22) rfl rfl Try.func39 (by kernel_rfl) rfl #[] rfl (by (try simp only [List.map_toArray, List.map_cons, List.map_nil]); first | done | rfl | (simp only [List.length_drop, List.length_take]; rfl)) ?_; (with_reducible refine (emendationlaw06_awake.calls k  true _ A10.out).mono ?_); rintro e w26 ⟨rfl, hb⟩; refine ⟨_, rfl, ?_⟩; have n0_ := Aside0.mk (Kd.V_below (by (with_reducible repeat (first | apply Kd.V_alloc | apply Kd.V_drewN | apply Kd.V_drew)); exact HO2.out) hb); have n1_ := Aside0.mk (Kd.V_below (by (with_reducible repeat (first | apply Kd.V_alloc | apply Kd.V_drewN | apply Kd.V_drew)); exact HO3.out) hb); have n2_ := Aside0.mk (Kd.V_below (by (with_reducible repeat (first | apply Kd.V_alloc | apply Kd.V_drewN | apply Kd.V_drew)); exact HO4.out) hb); have n3_ := Aside0.mk (Kd.V_below (by (with_reducible repeat (first | apply Kd.V_alloc | apply Kd.V_drewN | apply Kd.V_drew)); exact HO5.out) hb); have n4_ := Aside0.mk (Kd.V_below (by (with_reducible repeat (first | apply Kd.V_alloc | apply Kd.V_drewN | apply Kd.V_drew)); exact HO6.out) hb); have n5_ := Aside0.mk (blk_below (g := gb101) (o := .cells #[.string a1_0, .string a1_1, .string a1_2] 47 (0, 0)) (by (with_reducible repeat (first | refine blk_drewN ?_ _ | refine blk_drew ?_ | refine blk_alloc ?_ _)); exact BK101.out) hb); have n6_ := Aside0.mk (below_step (by repeat (first | (with_reducible first | exact HB.out | apply below_alloc | apply pw_below_drewN | apply below_drew1 | refine below_set ?_ GE101.out) | exact HB.out)) hb); clear HO2; clear HO3; clear HO4; clear HO5; clear HO6; clear BK101; clear HB; have HO2 := n0_; have HO3 := n1_; have HO4 := n2_; have HO5 := n3_; have HO6 := n4_; have BK101 := n5_; have HB := n6_; clear n0_ n1_ n2_ n3_ n4_ n5_ n6_; (try clear hb); (try clear hb2); (try clear hk); (try clear hi)) | (go_at_call 40; (with_reducible refine (emendationlaw06_few.calls k _ _ l3 true _ ?side1 ?side2 A12.out).mono ?_); (case side1 => repeat (first | exact (Kd.V_reads' HO3.out).2.2 | (with_reducible refine Kd.C_alloc ?_ _) | (with_reducible refine Kd.C_drewN ?_ _) | (with_reducible refine Kd.C_drew ?_))); (case side2 => exact (Kd.V_reads' HO3.out).2.1); rintro e w' ⟨rfl, ⟨nd, rfl⟩⟩) | (go_at_call 40; (with_reducible refine (emendationlaw06_few.calls k _ _ l2 true _ ?side1 ?side2 A14.out).mono ?_); (case side1 => repeat (first | exact (Kd.V_reads' HO2.out).2.2 | (with_reducible refine Kd.C_alloc ?_ _) | (with_reducible refine Kd.C_drewN ?_ _) | (with_reducible refine Kd.C_drew ?_))); (case side2 => exact (Kd.V_reads' HO2.out).2.1); rintro e w' ⟨rfl, ⟨nd, rfl⟩⟩) | (go_at_call 40; (with_reducible refine (emendationlaw06_few.calls k _ _ l4 true _ ?side1 ?side2 A16.out).mono ?_); (case side1 => repeat (first | exact (Kd.V_reads' HO4.out).2.2 | (with_reducible refine Kd.C_alloc ?_ _) | (with_reducible refine Kd.C_drewN ?_ _) | (with_reducible refine Kd.C_drew ?_))); (case side2 => exact (Kd.V_reads' HO4.out).2.1); rintro e w' ⟨rfl, ⟨nd, rfl⟩⟩) | (go_at_call 40; (with_reducible refine (emendationlaw06_few.calls k _ _ l5 true _ ?side1 ?side2 A18.out).mono ?_); (case side1 => repeat (first | exact (Kd.V_reads' HO5.out).2.2 | (with_reducible refine Kd.C_alloc ?_ _) | (with_reducible refine Kd.C_drewN ?_ _) | (with_reducible refine Kd.C_drew ?_))); (case side2 => exact (Kd.V_reads' HO5.out).2.1); rintro e w' ⟨rfl, ⟨nd, rfl⟩⟩) | (go_at_call 40; (with_reducible refine (emendationlaw06_few.calls k _ _ l6 false _ ?side1 ?side2 A20.out).mono ?_); (case side1 => repeat (first | exact (Kd.V_reads' HO6.out).2.2 | (with_reducible refine Kd.C_alloc ?_ _) | (with_reducible refine Kd.C_drewN ?_ _) | (with_reducible refine Kd.C_drew ?_))); (case side2 => exact (Kd.V_reads' HO6.out).2.1); rintro e w' ⟨rfl, ⟨nd, rfl⟩⟩))
                go_meet
                case rel => exact ⟨_, (true), (by first | rfl | (simp; done) | (simp [*]; done)), H', ⟨by first | omega | exact Nat.le_refl _⟩, ⟨by (with_reducible repeat (first | apply Kd.V_alloc | apply Kd.V_drewN | apply Kd.V_drew)); exact HO2.out⟩, ⟨by (with_reducible repeat (first | apply Kd.V_alloc | apply Kd.V_drewN | apply Kd.V_drew)); exact HO3.out⟩, ⟨by (with_reducible repeat (first | apply Kd.V_alloc | apply Kd.V_drewN | apply Kd.V_drew)); exact HO4.out⟩, ⟨by (with_reducible repeat (first | apply Kd.V_alloc | apply Kd.V_drewN | apply Kd.V_drew)); exact HO5.out⟩, ⟨by (with_reducible repeat (first | apply Kd.V_alloc | apply Kd.V_drewN | apply Kd.V_drew)); exact HO6.out⟩, ⟨by (with_reducible repeat (first | refine blk_drewN ?_ _ | refine blk_drew ?_ | refine blk_alloc ?_ _)); exact BK101.out⟩, ⟨by repeat (first | (with_reducible first | exact HB.out | apply below_alloc | apply pw_below_drewN | apply below_drew1 | refine below_set ?_ GE101.out) | exact HB.out)⟩⟩
            · replace c19 := Bool.eq_false_iff.mpr c19
              subst c19
              have H1 : (emendationlaw06_MarksBack.j0 k a0 l2 l3 l4 l5 l6 true a1_0 a1_1 a1_2) = some r := by rw [if_neg (show ¬ (false = true) by decide)] at H; exact H
              clear H
              have H := H1
              clear H1
              have H' := Aside0.mk H
              clear H
              go_wp2_with (first | ((with_reducible refine gate_callee (f := 39) rfl ?_); refine goesL_ (some 22) rfl rfl Try.func39 (by kernel_rfl) rfl #[] rfl (by (try simp only [List.map_toArray, List.map_cons, List.map_nil]); first | done | rfl | (simp only [List.length_drop, List.length_take]; rfl)) ?_; (with_reducible refine (emendationlaw06_awake.calls k  true _ A10.out).mono ?_); rintro e w27 ⟨rfl, hb⟩; refine ⟨_, rfl, ?_⟩; have n0_ := Aside0.mk (Kd.V_below (by (with_reducible repeat (first | apply Kd.V_alloc | apply Kd.V_drewN | apply Kd.V_drew)); exact HO2.out) hb); have n1_ := Aside0.mk (Kd.V_below (by (with_reducible repeat (first | apply Kd.V_alloc | apply Kd.V_drewN | apply Kd.V_drew)); exact HO3.out) hb); have n2_ := Aside0.mk (Kd.V_below (by (with_reducible repeat (first | apply Kd.V_alloc | apply Kd.V_drewN | apply Kd.V_drew)); exact HO4.out) hb); have n3_ := Aside0.mk (Kd.V_below (by (with_reducible repeat (first | apply Kd.V_alloc | apply Kd.V_drewN | apply Kd.V_drew)); exact HO5.out) hb); have n4_ := Aside0.mk (Kd.V_below (by (with_reducible repeat (first | apply Kd.V_alloc | apply Kd.V_drewN | apply Kd.V_drew)); exact HO6.out) hb); have n5_ := Aside0.mk (blk_below (g := gb101) (o := .cells #[.string a1_0, .string a1_1, .string a1_2] 47 (0, 0)) (by (with_reducible repeat (first | refine blk_drewN ?_ _ | refine blk_drew ?_ | refine blk_alloc ?_ _)); exact BK101.out) hb); have n6_ := Aside0.mk (below_step (by repeat (first | (with_reducible first | exact HB.out | apply below_alloc | apply pw_below_drewN | apply below_drew1 | refine below_set ?_ GE101.out) | exact HB.out)) hb); clear HO2; clear HO3; clear HO4; clear HO5; clear HO6; clear BK101; clear HB; have HO2 := n0_; have HO3 := n1_; have HO4 := n2_; have HO5 := n3_; have HO6 := n4_; have BK101 := n5_; have HB := n6_; clear n0_ n1_ n2_ n3_ n4_ n5_ n6_; (try clear hb); (try clear hb2); (try clear hk); (try clear hi)) | (go_at_call 40; (with_reducible refine (emendationlaw06_few.calls k _ _ l3 true _ ?side1 ?side2 A12.out).mono ?_); (case side1 => repeat (first | exact (Kd.V_reads' HO3.out).2.2 | (with_reducible refine Kd.C_alloc ?_ _) | (with_reducible refine Kd.C_drewN ?_ _) | (with_reducible refine Kd.C_drew ?_))); (case side2 => exact (Kd.V_reads' HO3.out).2.1); rintro e w' ⟨rfl, ⟨nd, rfl⟩⟩) | (go_at_call 40; (with_reducible refine (emendationlaw06_few.calls k _ _ l2 true _ ?side1 ?side2 A14.out).mono ?_); (case side1 => repeat (first | exact (Kd.V_reads' HO2.out).2.2 | (with_reducible refine Kd.C_alloc ?_ _) | (with_reducible refine Kd.C_drewN ?_ _) | (with_reducible refine Kd.C_drew ?_))); (case side2 => exact (Kd.V_reads' HO2.out).2.1); rintro e w' ⟨rfl, ⟨nd, rfl⟩⟩) | (go_at_call 40; (with_reducible refine (emendationlaw06_few.calls k _ _ l4 true _ ?side1 ?side2 A16.out).mono ?_); (case side1 => repeat (first | exact (Kd.V_reads' HO4.out).2.2 | (with_reducible refine Kd.C_alloc ?_ _) | (with_reducible refine Kd.C_drewN ?_ _) | (with_reducible refine Kd.C_drew ?_))); (case side2 => exact (Kd.V_reads' HO4.out).2.1); rintro e w' ⟨rfl, ⟨nd, rfl⟩⟩) | (go_at_call 40; (with_reducible refine (emendationlaw06_few.calls k _ _ l5 false _ ?side1 ?side2 A18.out).mono ?_); (case side1 => repeat (first | exact (Kd.V_reads' HO5.out).2.2 | (with_reducible refine Kd.C_alloc ?_ _) | (with_reducible refine Kd.C_drewN ?_ _) | (with_reducible refine Kd.C_drew ?_))); (case side2 => exact (Kd.V_reads' HO5.out).2.1); rintro e w' ⟨rfl, ⟨nd, rfl⟩⟩))
              go_meet
              case rel => exact ⟨_, (true), (by first | rfl | (simp; done) | (simp [*]; done)), H', ⟨by first | omega | exact Nat.le_refl _⟩, ⟨by (with_reducible repeat (first | apply Kd.V_alloc | apply Kd.V_drewN | apply Kd.V_drew)); exact HO2.out⟩, ⟨by (with_reducible repeat (first | apply Kd.V_alloc | apply Kd.V_drewN | apply Kd.V_drew)); exact HO3.out⟩, ⟨by (with_reducible repeat (first | apply Kd.V_alloc | apply Kd.V_drewN | apply Kd.V_drew)); exact HO4.out⟩, ⟨by (with_reducible repeat (first | apply Kd.V_alloc | apply Kd.V_drewN | apply Kd.V_drew)); exact HO5.out⟩, ⟨by (with_reducible repeat (first | apply Kd.V_alloc | apply Kd.V_drewN | apply Kd.V_drew)); exact HO6.out⟩, ⟨by (with_reducible repeat (first | refine blk_drewN ?_ _ | refine blk_drew ?_ | refine blk_alloc ?_ _)); exact BK101.out⟩, ⟨by repeat (first | (with_reducible first | exact HB.out | apply below_alloc | apply pw_below_drewN | apply below_drew1 | refine below_set ?_ GE101.out) | exact HB.out)⟩⟩
          · replace c17 := Bool.eq_false_iff.mpr c17
            subst c17
            have H1 : (emendationlaw06_MarksBack.j0 k a0 l2 l3 l4 l5 l6 true a1_0 a1_1 a1_2) = some r := by rw [if_neg (show ¬ (false = true) by decide)] at H; exact H
            clear H
            have H := H1
            clear H1
            have H' := Aside0.mk H
            clear H
            go_wp2_with (first | ((with_reducible refine gate_callee (f := 39) rfl ?_); refine goesL_ (some 22) rfl rfl Try.func39 (by kernel_rfl) rfl #[] rfl (by (try simp only [List.map_toArray, List.map_cons, List.map_nil]); first | done | rfl | (simp only [List.length_drop, List.length_take]; rfl)) ?_; (with_reducible refine (emendationlaw06_awake.calls k  true _ A10.out).mono ?_); rintro e w28 ⟨rfl, hb⟩; refine ⟨_, rfl, ?_⟩; have n0_ := Aside0.mk (Kd.V_below (by (with_reducible repeat (first | apply Kd.V_alloc | apply Kd.V_drewN | apply Kd.V_drew)); exact HO2.out) hb); have n1_ := Aside0.mk (Kd.V_below (by (with_reducible repeat (first | apply Kd.V_alloc | apply Kd.V_drewN | apply Kd.V_drew)); exact HO3.out) hb); have n2_ := Aside0.mk (Kd.V_below (by (with_reducible repeat (first | apply Kd.V_alloc | apply Kd.V_drewN | apply Kd.V_drew)); exact HO4.out) hb); have n3_ := Aside0.mk (Kd.V_below (by (with_reducible repeat (first | apply Kd.V_alloc | apply Kd.V_drewN | apply Kd.V_drew)); exact HO5.out) hb); have n4_ := Aside0.mk (Kd.V_below (by (with_reducible repeat (first | apply Kd.V_alloc | apply Kd.V_drewN | apply Kd.V_drew)); exact HO6.out) hb); have n5_ := Aside0.mk (blk_below (g := gb101) (o := .cells #[.string a1_0, .string a1_1, .string a1_2] 47 (0, 0)) (by (with_reducible repeat (first | refine blk_drewN ?_ _ | refine blk_drew ?_ | refine blk_alloc ?_ _)); exact BK101.out) hb); have n6_ := Aside0.mk (below_step (by repeat (first | (with_reducible first | exact HB.out | apply below_alloc | apply pw_below_drewN | apply below_drew1 | refine below_set ?_ GE101.out) | exact HB.out)) hb); clear HO2; clear HO3; clear HO4; clear HO5; clear HO6; clear BK101; clear HB; have HO2 := n0_; have HO3 := n1_; have HO4 := n2_; have HO5 := n3_; have HO6 := n4_; have BK101 := n5_; have HB := n6_; clear n0_ n1_ n2_ n3_ n4_ n5_ n6_; (try clear hb); (try clear hb2); (try clear hk); (try clear hi)) | (go_at_call 40; (with_reducible refine (emendationlaw06_few.calls k _ _ l3 true _ ?side1 ?side2 A12.out).mono ?_); (case side1 => repeat (first | exact (Kd.V_reads' HO3.out).2.2 | (with_reducible refine Kd.C_alloc ?_ _) | (with_reducible refine Kd.C_drewN ?_ _) | (with_reducible refine Kd.C_drew ?_))); (case side2 => exact (Kd.V_reads' HO3.out).2.1); rintro e w' ⟨rfl, ⟨nd, rfl⟩⟩) | (go_at_call 40; (with_reducible refine (emendationlaw06_few.calls k _ _ l2 true _ ?side1 ?side2 A14.out).mono ?_); (case side1 => repeat (first | exact (Kd.V_reads' HO2.out).2.2 | (with_reducible refine Kd.C_alloc ?_ _) | (with_reducible refine Kd.C_drewN ?_ _) | (with_reducible refine Kd.C_drew ?_))); (case side2 => exact (Kd.V_reads' HO2.out).2.1); rintro e w' ⟨rfl, ⟨nd, rfl⟩⟩) | (go_at_call 40; (with_reducible refine (emendationlaw06_few.calls k _ _ l4 false _ ?side1 ?side2 A16.out).mono ?_); (case side1 => repeat (first | exact (Kd.V_reads' HO4.out).2.2 | (with_reducible refine Kd.C_alloc ?_ _) | (with_reducible refine Kd.C_drewN ?_ _) | (with_reducible refine Kd.C_drew ?_))); (case side2 => exact (Kd.V_reads' HO4.out).2.1); rintro e w' ⟨rfl, ⟨nd, rfl⟩⟩))
            go_meet
            case rel => exact ⟨_, (true), (by first | rfl | (simp; done) | (simp [*]; done)), H', ⟨by first | omega | exact Nat.le_refl _⟩, ⟨by (with_reducible repeat (first | apply Kd.V_alloc | apply Kd.V_drewN | apply Kd.V_drew)); exact HO2.out⟩, ⟨by (with_reducible repeat (first | apply Kd.V_alloc | apply Kd.V_drewN | apply Kd.V_drew)); exact HO3.out⟩, ⟨by (with_reducible repeat (first | apply Kd.V_alloc | apply Kd.V_drewN | apply Kd.V_drew)); exact HO4.out⟩, ⟨by (with_reducible repeat (first | apply Kd.V_alloc | apply Kd.V_drewN | apply Kd.V_drew)); exact HO5.out⟩, ⟨by (with_reducible repeat (first | apply Kd.V_alloc | apply Kd.V_drewN | apply Kd.V_drew)); exact HO6.out⟩, ⟨by (with_reducible repeat (first | refine blk_drewN ?_ _ | refine blk_drew ?_ | refine blk_alloc ?_ _)); exact BK101.out⟩, ⟨by repeat (first | (with_reducible first | exact HB.out | apply below_alloc | apply pw_below_drewN | apply below_drew1 | refine below_set ?_ GE101.out) | exact HB.out)⟩⟩
        · replace c15 := Bool.eq_false_iff.mpr c15
          subst c15
          have H1 : (emendationlaw06_MarksBack.j0 k a0 l2 l3 l4 l5 l6 true a1_0 a1_1 a1_2) = some r := by rw [if_neg (show ¬ (false = true) by decide)] at H; exact H
          clear H
          have H := H1
          clear H1
          have H' := Aside0.mk H
          clear H
          go_wp2_with (first | ((with_reducible refine gate_callee (f := 39) rfl ?_); refine goesL_ (some 22) rfl rfl Try.func39 (by kernel_rfl) rfl #[] rfl (by (try simp only [List.map_toArray, List.map_cons, List.map_nil]); first | done | rfl | (simp only [List.length_drop, List.length_take]; rfl)) ?_; (with_reducible refine (emendationlaw06_awake.calls k  true _ A10.out).mono ?_); rintro e w29 ⟨rfl, hb⟩; refine ⟨_, rfl, ?_⟩; have n0_ := Aside0.mk (Kd.V_below (by (with_reducible repeat (first | apply Kd.V_alloc | apply Kd.V_drewN | apply Kd.V_drew)); exact HO2.out) hb); have n1_ := Aside0.mk (Kd.V_below (by (with_reducible repeat (first | apply Kd.V_alloc | apply Kd.V_drewN | apply Kd.V_drew)); exact HO3.out) hb); have n2_ := Aside0.mk (Kd.V_below (by (with_reducible repeat (first | apply Kd.V_alloc | apply Kd.V_drewN | apply Kd.V_drew)); exact HO4.out) hb); have n3_ := Aside0.mk (Kd.V_below (by (with_reducible repeat (first | apply Kd.V_alloc | apply Kd.V_drewN | apply Kd.V_drew)); exact HO5.out) hb); have n4_ := Aside0.mk (Kd.V_below (by (with_reducible repeat (first | apply Kd.V_alloc | apply Kd.V_drewN | apply Kd.V_drew)); exact HO6.out) hb); have n5_ := Aside0.mk (blk_below (g := gb101) (o := .cells #[.string a1_0, .string a1_1, .string a1_2] 47 (0, 0)) (by (with_reducible repeat (first | refine blk_drewN ?_ _ | refine blk_drew ?_ | refine blk_alloc ?_ _)); exact BK101.out) hb); have n6_ := Aside0.mk (below_step (by repeat (first | (with_reducible first | exact HB.out | apply below_alloc | apply pw_below_drewN | apply below_drew1 | refine below_set ?_ GE101.out) | exact HB.out)) hb); clear HO2; clear HO3; clear HO4; clear HO5; clear HO6; clear BK101; clear HB; have HO2 := n0_; have HO3 := n1_; have HO4 := n2_; have HO5 := n3_; have HO6 := n4_; have BK101 := n5_; have HB := n6_; clear n0_ n1_ n2_ n3_ n4_ n5_ n6_; (try clear hb); (try clear hb2); (try clear hk); (try clear hi)) | (go_at_call 40; (with_reducible refine (emendationlaw06_few.calls k _ _ l3 true _ ?side1 ?side2 A12.out).mono ?_); (case side1 => repeat (first | exact (Kd.V_reads' HO3.out).2.2 | (with_reducible refine Kd.C_alloc ?_ _) | (with_reducible refine Kd.C_drewN ?_ _) | (with_reducible refine Kd.C_drew ?_))); (case side2 => exact (Kd.V_reads' HO3.out).2.1); rintro e w' ⟨rfl, ⟨nd, rfl⟩⟩) | (go_at_call 40; (with_reducible refine (emendationlaw06_few.calls k _ _ l2 false _ ?side1 ?side2 A14.out).mono ?_); (case side1 => repeat (first | exact (Kd.V_reads' HO2.out).2.2 | (with_reducible refine Kd.C_alloc ?_ _) | (with_reducible refine Kd.C_drewN ?_ _) | (with_reducible refine Kd.C_drew ?_))); (case side2 => exact (Kd.V_reads' HO2.out).2.1); rintro e w' ⟨rfl, ⟨nd, rfl⟩⟩))
          go_meet
          case rel => exact ⟨_, (true), (by first | rfl | (simp; done) | (simp [*]; done)), H', ⟨by first | omega | exact Nat.le_refl _⟩, ⟨by (with_reducible repeat (first | apply Kd.V_alloc | apply Kd.V_drewN | apply Kd.V_drew)); exact HO2.out⟩, ⟨by (with_reducible repeat (first | apply Kd.V_alloc | apply Kd.V_drewN | apply Kd.V_drew)); exact HO3.out⟩, ⟨by (with_reducible repeat (first | apply Kd.V_alloc | apply Kd.V_drewN | apply Kd.V_drew)); exact HO4.out⟩, ⟨by (with_reducible repeat (first | apply Kd.V_alloc | apply Kd.V_drewN | apply Kd.V_drew)); exact HO5.out⟩, ⟨by (with_reducible repeat (first | apply Kd.V_alloc | apply Kd.V_drewN | apply Kd.V_drew)); exact HO6.out⟩, ⟨by (with_reducible repeat (first | refine blk_drewN ?_ _ | refine blk_drew ?_ | refine blk_alloc ?_ _)); exact BK101.out⟩, ⟨by repeat (first | (with_reducible first | exact HB.out | apply below_alloc | apply pw_below_drewN | apply below_drew1 | refine below_set ?_ GE101.out) | exact HB.out)⟩⟩
      · replace c13 := Bool.eq_false_iff.mpr c13
        subst c13
        have H1 : (emendationlaw06_MarksBack.j0 k a0 l2 l3 l4 l5 l6 true a1_0 a1_1 a1_2) = some r := by rw [if_neg (show ¬ (false = true) by decide)] at H; exact H
        clear H
        have H := H1
        clear H1
        have H' := Aside0.mk H
        clear H
        go_wp2_with (first | ((with_reducible refine gate_callee (f := 39) rfl ?_); refine goesL_ (some 22) rfl rfl Try.func39 (by kernel_rfl) rfl #[] rfl (by (try simp only [List.map_toArray, List.map_cons, List.map_nil]); first | done | rfl | (simp only [List.length_drop, List.length_take]; rfl)) ?_; (with_reducible refine (emendationlaw06_awake.calls k  true _ A10.out).mono ?_); rintro e w30 ⟨rfl, hb⟩; refine ⟨_, rfl, ?_⟩; have n0_ := Aside0.mk (Kd.V_below (by (with_reducible repeat (first | apply Kd.V_alloc | apply Kd.V_drewN | apply Kd.V_drew)); exact HO2.out) hb); have n1_ := Aside0.mk (Kd.V_below (by (with_reducible repeat (first | apply Kd.V_alloc | apply Kd.V_drewN | apply Kd.V_drew)); exact HO3.out) hb); have n2_ := Aside0.mk (Kd.V_below (by (with_reducible repeat (first | apply Kd.V_alloc | apply Kd.V_drewN | apply Kd.V_drew)); exact HO4.out) hb); have n3_ := Aside0.mk (Kd.V_below (by (with_reducible repeat (first | apply Kd.V_alloc | apply Kd.V_drewN | apply Kd.V_drew)); exact HO5.out) hb); have n4_ := Aside0.mk (Kd.V_below (by (with_reducible repeat (first | apply Kd.V_alloc | apply Kd.V_drewN | apply Kd.V_drew)); exact HO6.out) hb); have n5_ := Aside0.mk (blk_below (g := gb101) (o := .cells #[.string a1_0, .string a1_1, .string a1_2] 47 (0, 0)) (by (with_reducible repeat (first | refine blk_drewN ?_ _ | refine blk_drew ?_ | refine blk_alloc ?_ _)); exact BK101.out) hb); have n6_ := Aside0.mk (below_step (by repeat (first | (with_reducible first | exact HB.out | apply below_alloc | apply pw_below_drewN | apply below_drew1 | refine below_set ?_ GE101.out) | exact HB.out)) hb); clear HO2; clear HO3; clear HO4; clear HO5; clear HO6; clear BK101; clear HB; have HO2 := n0_; have HO3 := n1_; have HO4 := n2_; have HO5 := n3_; have HO6 := n4_; have BK101 := n5_; have HB := n6_; clear n0_ n1_ n2_ n3_ n4_ n5_ n6_; (try clear hb); (try clear hb2); (try clear hk); (try clear hi)) | (go_at_call 40; (with_reducible refine (emendationlaw06_few.calls k _ _ l3 false _ ?side1 ?side2 A12.out).mono ?_); (case side1 => repeat (first | exact (Kd.V_reads' HO3.out).2.2 | (with_reducible refine Kd.C_alloc ?_ _) | (with_reducible refine Kd.C_drewN ?_ _) | (with_reducible refine Kd.C_drew ?_))); (case side2 => exact (Kd.V_reads' HO3.out).2.1); rintro e w' ⟨rfl, ⟨nd, rfl⟩⟩))
        go_meet
        case rel => exact ⟨_, (true), (by first | rfl | (simp; done) | (simp [*]; done)), H', ⟨by first | omega | exact Nat.le_refl _⟩, ⟨by (with_reducible repeat (first | apply Kd.V_alloc | apply Kd.V_drewN | apply Kd.V_drew)); exact HO2.out⟩, ⟨by (with_reducible repeat (first | apply Kd.V_alloc | apply Kd.V_drewN | apply Kd.V_drew)); exact HO3.out⟩, ⟨by (with_reducible repeat (first | apply Kd.V_alloc | apply Kd.V_drewN | apply Kd.V_drew)); exact HO4.out⟩, ⟨by (with_reducible repeat (first | apply Kd.V_alloc | apply Kd.V_drewN | apply Kd.V_drew)); exact HO5.out⟩, ⟨by (with_reducible repeat (first | apply Kd.V_alloc | apply Kd.V_drewN | apply Kd.V_drew)); exact HO6.out⟩, ⟨by (with_reducible repeat (first | refine blk_drewN ?_ _ | refine blk_drew ?_ | refine blk_alloc ?_ _)); exact BK101.out⟩, ⟨by repeat (first | (with_reducible first | exact HB.out | apply below_alloc | apply pw_below_drewN | apply below_drew1 | refine below_set ?_ GE101.out) | exact HB.out)⟩⟩
    · replace c11 := Bool.eq_false_iff.mpr c11
      subst c11
      have H1 : (emendationlaw06_MarksBack.j0 k a0 l2 l3 l4 l5 l6 true a1_0 a1_1 a1_2) = some r := by rw [if_neg (show ¬ (false = true) by decide)] at H; exact H
      clear H
      have H := H1
      clear H1
      have H' := Aside0.mk H
      clear H
      go_wp2_with (first | ((with_reducible refine gate_callee (f := 39) rfl ?_); refine goesL_ (some 22) rfl rfl Try.func39 (by kernel_rfl) rfl #[] rfl (by (try simp only [List.map_toArray, List.map_cons, List.map_nil]); first | done | rfl | (simp only [List.length_drop, List.length_take]; rfl)) ?_; (with_reducible refine (emendationlaw06_awake.calls k  false _ A10.out).mono ?_); rintro e w31 ⟨rfl, hb⟩; refine ⟨_, rfl, ?_⟩; have n0_ := Aside0.mk (Kd.V_below (by (with_reducible repeat (first | apply Kd.V_alloc | apply Kd.V_drewN | apply Kd.V_drew)); exact HO2.out) hb); have n1_ := Aside0.mk (Kd.V_below (by (with_reducible repeat (first | apply Kd.V_alloc | apply Kd.V_drewN | apply Kd.V_drew)); exact HO3.out) hb); have n2_ := Aside0.mk (Kd.V_below (by (with_reducible repeat (first | apply Kd.V_alloc | apply Kd.V_drewN | apply Kd.V_drew)); exact HO4.out) hb); have n3_ := Aside0.mk (Kd.V_below (by (with_reducible repeat (first | apply Kd.V_alloc | apply Kd.V_drewN | apply Kd.V_drew)); exact HO5.out) hb); have n4_ := Aside0.mk (Kd.V_below (by (with_reducible repeat (first | apply Kd.V_alloc | apply Kd.V_drewN | apply Kd.V_drew)); exact HO6.out) hb); have n5_ := Aside0.mk (blk_below (g := gb101) (o := .cells #[.string a1_0, .string a1_1, .string a1_2] 47 (0, 0)) (by (with_reducible repeat (first | refine blk_drewN ?_ _ | refine blk_drew ?_ | refine blk_alloc ?_ _)); exact BK101.out) hb); have n6_ := Aside0.mk (below_step (by repeat (first | (with_reducible first | exact HB.out | apply below_alloc | apply pw_below_drewN | apply below_drew1 | refine below_set ?_ GE101.out) | exact HB.out)) hb); clear HO2; clear HO3; clear HO4; clear HO5; clear HO6; clear BK101; clear HB; have HO2 := n0_; have HO3 := n1_; have HO4 := n2_; have HO5 := n3_; have HO6 := n4_; have BK101 := n5_; have HB := n6_; clear n0_ n1_ n2_ n3_ n4_ n5_ n6_; (try clear hb); (try clear hb2); (try clear hk); (try clear hi)))
      go_meet
      case rel => exact ⟨_, (true), (by first | rfl | (simp; done) | (simp [*]; done)), H', ⟨by first | omega | exact Nat.le_refl _⟩, ⟨by (with_reducible repeat (first | apply Kd.V_alloc | apply Kd.V_drewN | apply Kd.V_drew)); exact HO2.out⟩, ⟨by (with_reducible repeat (first | apply Kd.V_alloc | apply Kd.V_drewN | apply Kd.V_drew)); exact HO3.out⟩, ⟨by (with_reducible repeat (first | apply Kd.V_alloc | apply Kd.V_drewN | apply Kd.V_drew)); exact HO4.out⟩, ⟨by (with_reducible repeat (first | apply Kd.V_alloc | apply Kd.V_drewN | apply Kd.V_drew)); exact HO5.out⟩, ⟨by (with_reducible repeat (first | apply Kd.V_alloc | apply Kd.V_drewN | apply Kd.V_drew)); exact HO6.out⟩, ⟨by (with_reducible repeat (first | refine blk_drewN ?_ _ | refine blk_drew ?_ | refine blk_alloc ?_ _)); exact BK101.out⟩, ⟨by repeat (first | (with_reducible first | exact HB.out | apply below_alloc | apply pw_below_drewN | apply below_drew1 | refine below_set ?_ GE101.out) | exact HB.out)⟩⟩
  case rest =>
    clear HC8
    try clear c1
    try clear c2
    try clear p2
    try clear c3
    try clear c4
    try clear c5
    try clear c6
    try clear c11
    try clear c13
    try clear c15
    try clear c17
    try clear c19
    try clear c21
    try clear c25
    try clear hcz24_0
    try clear hcz24_1
    try clear hcz24_2
    try clear hfz24_0
    try clear hfz24_1
    try clear hfz24_2
    obtain ⟨kq, x53_7, rfl, HA, HJ7, HO_2, HO_3, HO_4, HO_5, HO_6, BK101, HB⟩ := hcut
    cases kq with
    | zero => exact absurd HA.out (by simp [emendationlaw06_MarksBack.j0])
    | succ kj7 =>
      have H := HA.out
      clear HA
      simp only [emendationlaw06_MarksBack.j0] at H
      by_cases c32 : x53_7 = true
      · subst c32
        have H1 : ((emendationlaw06_awake.f kj7).bind fun t109 => (some t109)) = some r := by rw [if_pos rfl] at H; exact H
        clear H
        have H := H1
        clear H1
        replace H := Option.bind_eq_some_iff.mp H
        obtain ⟨t109, A330, H⟩ := H
        replace H : (some t109) = some r := H
        have A33 := Aside0.mk A330
        clear A330
        obtain rfl := Option.some.inj H
        go_wp2_with (first | ((with_reducible refine gate_callee (f := 39) rfl ?_); refine goesL_ (some 54) rfl rfl Try.func39 (by kernel_rfl) rfl #[] rfl (by (try simp only [List.map_toArray, List.map_cons, List.map_nil]); first | done | rfl | (simp only [List.length_drop, List.length_take]; rfl)) ?_; (with_reducible refine (emendationlaw06_awake.calls kj7  t109 _ A33.out).mono ?_); rintro e w34 ⟨rfl, hb⟩; refine ⟨_, rfl, ?_⟩; have n0_ := Aside0.mk (Kd.V_below (by (with_reducible repeat (first | apply Kd.V_alloc | apply Kd.V_drewN | apply Kd.V_drew)); exact HO_2.out) hb); have n1_ := Aside0.mk (Kd.V_below (by (with_reducible repeat (first | apply Kd.V_alloc | apply Kd.V_drewN | apply Kd.V_drew)); exact HO_3.out) hb); have n2_ := Aside0.mk (Kd.V_below (by (with_reducible repeat (first | apply Kd.V_alloc | apply Kd.V_drewN | apply Kd.V_drew)); exact HO_4.out) hb); have n3_ := Aside0.mk (Kd.V_below (by (with_reducible repeat (first | apply Kd.V_alloc | apply Kd.V_drewN | apply Kd.V_drew)); exact HO_5.out) hb); have n4_ := Aside0.mk (Kd.V_below (by (with_reducible repeat (first | apply Kd.V_alloc | apply Kd.V_drewN | apply Kd.V_drew)); exact HO_6.out) hb); have n5_ := Aside0.mk (blk_below (g := gb101) (o := .cells #[.string a1_0, .string a1_1, .string a1_2] 47 (0, 0)) (by (with_reducible repeat (first | refine blk_drewN ?_ _ | refine blk_drew ?_ | refine blk_alloc ?_ _)); exact BK101.out) hb); have n6_ := Aside0.mk (below_step (by repeat (first | (with_reducible first | exact HB.out | apply below_alloc | apply pw_below_drewN | apply below_drew1 | refine below_set ?_ GE101.out) | exact HB.out)) hb); clear HO_2; clear HO_3; clear HO_4; clear HO_5; clear HO_6; clear BK101; clear HB; have HO_2 := n0_; have HO_3 := n1_; have HO_4 := n2_; have HO_5 := n3_; have HO_6 := n4_; have BK101 := n5_; have HB := n6_; clear n0_ n1_ n2_ n3_ n4_ n5_ n6_; (try clear hb); (try clear hb2); (try clear hk); (try clear hi)))
        go_ret
        exact ⟨by first | rfl | (simp [errW_none, errW_some] <;> rfl) | (simp [*, errW_none, errW_some] <;> rfl), by repeat (first | (with_reducible first | exact HB.out | apply below_alloc | apply pw_below_drewN | apply below_drew1 | refine below_set ?_ GE101.out) | exact HB.out)⟩
      · replace c32 := Bool.eq_false_iff.mpr c32
        subst c32
        have H1 : ((marks_Size.f kj7 a0 (([l2, l3, l4, l5, l6] : List (List ByteArray)))).bind fun t113 => (if t113 = 1000 then (emendationlaw06_MarksBack.j1 kj7 l2 l3 l4 l5 l6 t113 true a1_0 a1_1 a1_2) else ((emendationlaw06_plain.f kj7 a1_0).bind fun t114 => (if t114 = true then ((emendationlaw06_plain.f kj7 a1_1).bind fun t115 => (if t115 = true then ((emendationlaw06_plain.f kj7 a1_2).bind fun t116 => (emendationlaw06_MarksBack.j1 kj7 l2 l3 l4 l5 l6 t113 (!t116) a1_0 a1_1 a1_2)) else (emendationlaw06_MarksBack.j1 kj7 l2 l3 l4 l5 l6 t113 true a1_0 a1_1 a1_2))) else (emendationlaw06_MarksBack.j1 kj7 l2 l3 l4 l5 l6 t113 true a1_0 a1_1 a1_2))))) = some r := by rw [if_neg (show ¬ (false = true) by decide)] at H; exact H
        clear H
        have H := H1
        clear H1
        obtain ⟨y110, hy110⟩ : ∃ y_ : List (List ByteArray), y_ = (([l2, l3, l4, l5, l6] : List (List ByteArray))) := ⟨_, rfl⟩
        replace H : ((marks_Size.f kj7 a0 y110).bind fun t113 => (if t113 = 1000 then (emendationlaw06_MarksBack.j1 kj7 l2 l3 l4 l5 l6 t113 true a1_0 a1_1 a1_2) else ((emendationlaw06_plain.f kj7 a1_0).bind fun t114 => (if t114 = true then ((emendationlaw06_plain.f kj7 a1_1).bind fun t115 => (if t115 = true then ((emendationlaw06_plain.f kj7 a1_2).bind fun t116 => (emendationlaw06_MarksBack.j1 kj7 l2 l3 l4 l5 l6 t113 (!t116) a1_0 a1_1 a1_2)) else (emendationlaw06_MarksBack.j1 kj7 l2 l3 l4 l5 l6 t113 true a1_0 a1_1 a1_2))) else (emendationlaw06_MarksBack.j1 kj7 l2 l3 l4 l5 l6 t113 true a1_0 a1_1 a1_2))))) = some r := by first | (rw [hy110]; with_reducible exact H) | (have H2_ := (Option.bind_some _ _).symm.trans H; rw [hy110]; with_reducible exact H2_) | (have H2_ := (Option.bind_some _ _).symm.trans H; with_reducible exact H2_) | with_reducible exact H | (rw [hy110]; exact H) | exact H
        have Ny110 := Aside0.mk hy110
        clear hy110
        replace H := Option.bind_eq_some_iff.mp H
        obtain ⟨t113, A350, H⟩ := H
        replace H : (if t113 = 1000 then (emendationlaw06_MarksBack.j1 kj7 l2 l3 l4 l5 l6 t113 true a1_0 a1_1 a1_2) else ((emendationlaw06_plain.f kj7 a1_0).bind fun t114 => (if t114 = true then ((emendationlaw06_plain.f kj7 a1_1).bind fun t115 => (if t115 = true then ((emendationlaw06_plain.f kj7 a1_2).bind fun t116 => (emendationlaw06_MarksBack.j1 kj7 l2 l3 l4 l5 l6 t113 (!t116) a1_0 a1_1 a1_2)) else (emendationlaw06_MarksBack.j1 kj7 l2 l3 l4 l5 l6 t113 true a1_0 a1_1 a1_2))) else (emendationlaw06_MarksBack.j1 kj7 l2 l3 l4 l5 l6 t113 true a1_0 a1_1 a1_2)))) = some r := H
        have A35 := Aside0.mk A350
        clear A350
        have HC36 := Aside0.mk H
        clear H
        go_upto_region 4 with (first | ((with_reducible refine gate_dst (N := 61) rfl ?_); refine Kd.N_lit (Kd.slice 9 Kd.string) _ 24 ?hg (N' := 61) ?hd (xs := ([l2, l3, l4, l5, l6] : List (List ByteArray))) (inner := [.slice A2 l2.length c2, .slice A3 l3.length c3, .slice A4 l4.length c4, .slice A5 l5.length c5, .slice A6 l6.length c6]) (ok := (fun k_ => ((P2_ k_ ∨ P3_ k_ ∨ P4_ k_ ∨ P5_ k_ ∨ P6_ k_) ∨ w.heap.size ≤ k_) ∧ k_ ≠ gb101)) (okp := (fun k_ => ((P2_ k_ ∨ P3_ k_ ∨ P4_ k_ ∨ P5_ k_ ∨ P6_ k_) ∨ w.heap.size ≤ k_) ∧ k_ ≠ gb101)) ?hr ?hp (fun _ hk => hk) ((show ∀ k_, wc.heap.size ≤ k_ → (fun k_ => ((P2_ k_ ∨ P3_ k_ ∨ P4_ k_ ∨ P5_ k_ ∨ P6_ k_) ∨ w.heap.size ≤ k_) ∧ k_ ≠ gb101) k_ from fun k_ hk => ⟨(.inr (Nat.le_trans (below_size (by repeat (first | (with_reducible first | exact HB.out | apply below_alloc | apply pw_below_drewN | apply below_drew1 | refine below_set ?_ GE101.out) | exact HB.out))) hk)), Kd.freshB (g := gb101) (o := .cells #[.string a1_0, .string a1_1, .string a1_2] 47 (0, 0)) (by (with_reducible repeat (first | refine blk_drewN ?_ _ | refine blk_drew ?_ | refine blk_alloc ?_ _)); exact BK101.out) k_ hk⟩) _ (Nat.le_refl _)) (Below.refl _ _) (Nat.le_refl _) (by simp) ?_; (case hd => rfl); (case hg => rfl); (case hr => first | (go_simp; done) | (go_simp; rfl)); (case hp => exact (Reps.one (show Kd.FK (Kd.slice 9 Kd.string) _ _ l2 [.slice A2 l2.length c2] from (Kd.FK_slice_mk (Kd.V_reads' (Kd.V_mono (ok' := (fun k_ => ((P2_ k_ ∨ P3_ k_ ∨ P4_ k_ ∨ P5_ k_ ∨ P6_ k_) ∨ w.heap.size ≤ k_) ∧ k_ ≠ gb101)) (HO_2.out) (fun k_ hk => ⟨hk.1, hk.2⟩))).2.1 (Kd.V_F (Kd.V_mono (ok' := (fun k_ => ((P2_ k_ ∨ P3_ k_ ∨ P4_ k_ ∨ P5_ k_ ∨ P6_ k_) ∨ w.heap.size ≤ k_) ∧ k_ ≠ gb101)) (HO_2.out) (fun k_ hk => ⟨hk.1, hk.2⟩))))) (Reps.one (show Kd.FK (Kd.slice 9 Kd.string) _ _ l3 [.slice A3 l3.length c3] from (Kd.FK_slice_mk (Kd.V_reads' (Kd.V_mono (ok' := (fun k_ => ((P2_ k_ ∨ P3_ k_ ∨ P4_ k_ ∨ P5_ k_ ∨ P6_ k_) ∨ w.heap.size ≤ k_) ∧ k_ ≠ gb101)) (HO_3.out) (fun k_ hk => ⟨hk.1, hk.2⟩))).2.1 (Kd.V_F (Kd.V_mono (ok' := (fun k_ => ((P2_ k_ ∨ P3_ k_ ∨ P4_ k_ ∨ P5_ k_ ∨ P6_ k_) ∨ w.heap.size ≤ k_) ∧ k_ ≠ gb101)) (HO_3.out) (fun k_ hk => ⟨hk.1, hk.2⟩))))) (Reps.one (show Kd.FK (Kd.slice 9 Kd.string) _ _ l4 [.slice A4 l4.length c4] from (Kd.FK_slice_mk (Kd.V_reads' (Kd.V_mono (ok' := (fun k_ => ((P2_ k_ ∨ P3_ k_ ∨ P4_ k_ ∨ P5_ k_ ∨ P6_ k_) ∨ w.heap.size ≤ k_) ∧ k_ ≠ gb101)) (HO_4.out) (fun k_ hk => ⟨hk.1, hk.2⟩))).2.1 (Kd.V_F (Kd.V_mono (ok' := (fun k_ => ((P2_ k_ ∨ P3_ k_ ∨ P4_ k_ ∨ P5_ k_ ∨ P6_ k_) ∨ w.heap.size ≤ k_) ∧ k_ ≠ gb101)) (HO_4.out) (fun k_ hk => ⟨hk.1, hk.2⟩))))) (Reps.one (show Kd.FK (Kd.slice 9 Kd.string) _ _ l5 [.slice A5 l5.length c5] from (Kd.FK_slice_mk (Kd.V_reads' (Kd.V_mono (ok' := (fun k_ => ((P2_ k_ ∨ P3_ k_ ∨ P4_ k_ ∨ P5_ k_ ∨ P6_ k_) ∨ w.heap.size ≤ k_) ∧ k_ ≠ gb101)) (HO_5.out) (fun k_ hk => ⟨hk.1, hk.2⟩))).2.1 (Kd.V_F (Kd.V_mono (ok' := (fun k_ => ((P2_ k_ ∨ P3_ k_ ∨ P4_ k_ ∨ P5_ k_ ∨ P6_ k_) ∨ w.heap.size ≤ k_) ∧ k_ ≠ gb101)) (HO_5.out) (fun k_ hk => ⟨hk.1, hk.2⟩))))) (Reps.one (show Kd.FK (Kd.slice 9 Kd.string) _ _ l6 [.slice A6 l6.length c6] from (Kd.FK_slice_mk (Kd.V_reads' (Kd.V_mono (ok' := (fun k_ => ((P2_ k_ ∨ P3_ k_ ∨ P4_ k_ ∨ P5_ k_ ∨ P6_ k_) ∨ w.heap.size ≤ k_) ∧ k_ ≠ gb101)) (HO_6.out) (fun k_ hk => ⟨hk.1, hk.2⟩))).2.1 (Kd.V_F (Kd.V_mono (ok' := (fun k_ => ((P2_ k_ ∨ P3_ k_ ∨ P4_ k_ ∨ P5_ k_ ∨ P6_ k_) ∨ w.heap.size ≤ k_) ∧ k_ ≠ gb101)) (HO_6.out) (fun k_ hk => ⟨hk.1, hk.2⟩))))) (Reps.none _ _))))))); intro v111 w37 ho38 hb hg_ hnew_; clear hg_ hnew_; (first | rw [← Ny110.out] at ho38 | (simp only [Int.reduceToNat] at ho38; rw [← Ny110.out] at ho38)); have n0_ := Aside0.mk (Kd.V_elder' (by (with_reducible repeat (first | apply Kd.V_alloc | apply Kd.V_drewN | apply Kd.V_drew)); exact HO_2.out) (Kd.N_base ho38) hb); have n1_ := Aside0.mk (Kd.V_elder' (by (with_reducible repeat (first | apply Kd.V_alloc | apply Kd.V_drewN | apply Kd.V_drew)); exact HO_3.out) (Kd.N_base ho38) hb); have n2_ := Aside0.mk (Kd.V_elder' (by (with_reducible repeat (first | apply Kd.V_alloc | apply Kd.V_drewN | apply Kd.V_drew)); exact HO_4.out) (Kd.N_base ho38) hb); have n3_ := Aside0.mk (Kd.V_elder' (by (with_reducible repeat (first | apply Kd.V_alloc | apply Kd.V_drewN | apply Kd.V_drew)); exact HO_5.out) (Kd.N_base ho38) hb); have n4_ := Aside0.mk (Kd.V_elder' (by (with_reducible repeat (first | apply Kd.V_alloc | apply Kd.V_drewN | apply Kd.V_drew)); exact HO_6.out) (Kd.N_base ho38) hb); have n5_ := Aside0.mk (Kd.N_lower ho38 (below_size (by repeat (first | (with_reducible first | exact HB.out | apply below_alloc | apply pw_below_drewN | apply below_drew1 | refine below_set ?_ GE101.out) | exact HB.out)))); have n6_ := Aside0.mk (blk_below (g := gb101) (o := .cells #[.string a1_0, .string a1_1, .string a1_2] 47 (0, 0)) (by (with_reducible repeat (first | refine blk_drewN ?_ _ | refine blk_drew ?_ | refine blk_alloc ?_ _)); exact BK101.out) hb); have n7_ := Aside0.mk (below_step (by repeat (first | (with_reducible first | exact HB.out | apply below_alloc | apply pw_below_drewN | apply below_drew1 | refine below_set ?_ GE101.out) | exact HB.out)) hb); clear HO_2; clear HO_3; clear HO_4; clear HO_5; clear HO_6; clear BK101; clear HB; have HO_2 := n0_; have HO_3 := n1_; have HO_4 := n2_; have HO_5 := n3_; have HO_6 := n4_; have HO112 := n5_; have BK101 := n6_; have HB := n7_; clear n0_ n1_ n2_ n3_ n4_ n5_ n6_ n7_; clear hb ho38; obtain ⟨Ao39, co39, eo39⟩ := Kd.N_slice HO112.out; subst eo39) | ((with_reducible refine gate_callee (f := 41) rfl ?_); refine goesL_ (some 62) rfl rfl Try.func41 (by kernel_rfl) rfl #[.int .i64 a0, .slice Ao39 y110.length co39] rfl (by (try simp only [List.map_toArray, List.map_cons, List.map_nil]); first | done | rfl | (simp only [List.length_drop, List.length_take]; rfl)) ?_; (with_reducible refine (marks_Size.calls kj7 a0 _ _ y110 t113 _ ?side1 ?side2 A35.out).mono ?_); (case side1 => repeat (first | exact (Kd.N_reads' HO112.out).2.2 | (with_reducible refine Kd.C_alloc ?_ _) | (with_reducible refine Kd.C_drewN ?_ _) | (with_reducible refine Kd.C_drew ?_))); (case side2 => exact (Kd.N_reads' HO112.out).2.1); rintro e w40 ⟨rfl, hb⟩; refine ⟨_, rfl, ?_⟩; have n0_ := Aside0.mk (Kd.V_below (by (with_reducible repeat (first | apply Kd.V_alloc | apply Kd.V_drewN | apply Kd.V_drew)); exact HO_2.out) hb); have n1_ := Aside0.mk (Kd.V_below (by (with_reducible repeat (first | apply Kd.V_alloc | apply Kd.V_drewN | apply Kd.V_drew)); exact HO_3.out) hb); have n2_ := Aside0.mk (Kd.V_below (by (with_reducible repeat (first | apply Kd.V_alloc | apply Kd.V_drewN | apply Kd.V_drew)); exact HO_4.out) hb); have n3_ := Aside0.mk (Kd.V_below (by (with_reducible repeat (first | apply Kd.V_alloc | apply Kd.V_drewN | apply Kd.V_drew)); exact HO_5.out) hb); have n4_ := Aside0.mk (Kd.V_below (by (with_reducible repeat (first | apply Kd.V_alloc | apply Kd.V_drewN | apply Kd.V_drew)); exact HO_6.out) hb); have n5_ := Aside0.mk (Kd.N_below (by (with_reducible repeat (first | apply Kd.N_alloc | apply Kd.N_drewN | apply Kd.N_drew)); exact HO112.out) hb); have n6_ := Aside0.mk (blk_below (g := gb101) (o := .cells #[.string a1_0, .string a1_1, .string a1_2] 47 (0, 0)) (by (with_reducible repeat (first | refine blk_drewN ?_ _ | refine blk_drew ?_ | refine blk_alloc ?_ _)); exact BK101.out) hb); have n7_ := Aside0.mk (below_step (by repeat (first | (with_reducible first | exact HB.out | apply below_alloc | apply pw_below_drewN | apply below_drew1 | refine below_set ?_ GE101.out) | exact HB.out)) hb); clear HO_2; clear HO_3; clear HO_4; clear HO_5; clear HO_6; clear HO112; clear BK101; clear HB; have HO_2 := n0_; have HO_3 := n1_; have HO_4 := n2_; have HO_5 := n3_; have HO_6 := n4_; have HO112 := n5_; have BK101 := n6_; have HB := n7_; clear n0_ n1_ n2_ n3_ n4_ n5_ n6_ n7_; (try clear hb); (try clear hb2); (try clear hk); (try clear hi)))
        (try simp only [Act.put, List.setIfInBounds_toArray, List.set_cons_zero, List.set_cons_succ])
        go_cut [82] (fun v82 wc => ∃ (kq : Nat) (x82_35 : Bool), v82 = .bool x82_35 ∧ Aside0 (emendationlaw06_MarksBack.j1 kq l2 l3 l4 l5 l6 t113 x82_35 a1_0 a1_1 a1_2 = some r) ∧ Aside0 (kq ≤ kj7) ∧ Aside0 (Kd.V Kd.string 9 wc w.heap.size (fun k_ => ((P2_ k_ ∨ P3_ k_ ∨ P4_ k_ ∨ P5_ k_ ∨ P6_ k_) ∨ w.heap.size ≤ k_) ∧ k_ ≠ gb101) (.slice A2 l2.length c2) l2) ∧ Aside0 (Kd.V Kd.string 9 wc w.heap.size (fun k_ => ((P2_ k_ ∨ P3_ k_ ∨ P4_ k_ ∨ P5_ k_ ∨ P6_ k_) ∨ w.heap.size ≤ k_) ∧ k_ ≠ gb101) (.slice A3 l3.length c3) l3) ∧ Aside0 (Kd.V Kd.string 9 wc w.heap.size (fun k_ => ((P2_ k_ ∨ P3_ k_ ∨ P4_ k_ ∨ P5_ k_ ∨ P6_ k_) ∨ w.heap.size ≤ k_) ∧ k_ ≠ gb101) (.slice A4 l4.length c4) l4) ∧ Aside0 (Kd.V Kd.string 9 wc w.heap.size (fun k_ => ((P2_ k_ ∨ P3_ k_ ∨ P4_ k_ ∨ P5_ k_ ∨ P6_ k_) ∨ w.heap.size ≤ k_) ∧ k_ ≠ gb101) (.slice A5 l5.length c5) l5) ∧ Aside0 (Kd.V Kd.string 9 wc w.heap.size (fun k_ => ((P2_ k_ ∨ P3_ k_ ∨ P4_ k_ ∨ P5_ k_ ∨ P6_ k_) ∨ w.heap.size ≤ k_) ∧ k_ ≠ gb101) (.slice A6 l6.length c6) l6) ∧ Aside0 (wc.heap[gb101]? = some (.cells #[.string a1_0, .string a1_1, .string a1_2] 47 (0, 0))) ∧ Aside0 (Below w.heap.size w wc))
        case first =>
          have H := HC36.out
          clear HC36
          by_cases c41 : t113 = 1000
          · rw [if_pos c41] at H
            have c41b0 : (t113 == 1000) = true := beq_iff_eq.mpr c41
            have c41b1 : (t113 != 1000) = false := bne_eq_false_iff_eq.mpr c41
            clear c41
            (first | rw [c41b0] | (simp only [i64_w, i32_w]; rw [c41b0]) | skip)
            have H' := Aside0.mk H
            clear H
            go_wp2
            go_meet
            case rel => exact ⟨_, (true), (by first | rfl | (simp; done) | (simp [*]; done)), H', ⟨by have := HJ7.out; first | omega | exact Nat.le_refl _⟩, ⟨by (with_reducible repeat (first | apply Kd.V_alloc | apply Kd.V_drewN | apply Kd.V_drew)); exact Kd.V_mono HO_2.out (fun _ hk => ⟨hk.1.1, hk.1.2⟩)⟩, ⟨by (with_reducible repeat (first | apply Kd.V_alloc | apply Kd.V_drewN | apply Kd.V_drew)); exact Kd.V_mono HO_3.out (fun _ hk => ⟨hk.1.1, hk.1.2⟩)⟩, ⟨by (with_reducible repeat (first | apply Kd.V_alloc | apply Kd.V_drewN | apply Kd.V_drew)); exact Kd.V_mono HO_4.out (fun _ hk => ⟨hk.1.1, hk.1.2⟩)⟩, ⟨by (with_reducible repeat (first | apply Kd.V_alloc | apply Kd.V_drewN | apply Kd.V_drew)); exact Kd.V_mono HO_5.out (fun _ hk => ⟨hk.1.1, hk.1.2⟩)⟩, ⟨by (with_reducible repeat (first | apply Kd.V_alloc | apply Kd.V_drewN | apply Kd.V_drew)); exact Kd.V_mono HO_6.out (fun _ hk => ⟨hk.1.1, hk.1.2⟩)⟩, ⟨by (with_reducible repeat (first | refine blk_drewN ?_ _ | refine blk_drew ?_ | refine blk_alloc ?_ _)); exact BK101.out⟩, ⟨by repeat (first | (with_reducible first | exact HB.out | apply below_alloc | apply pw_below_drewN | apply below_drew1 | refine below_set ?_ GE101.out) | exact HB.out)⟩⟩
          · rw [if_neg c41] at H
            have c41b0 : (t113 == 1000) = false := beq_eq_false_iff_ne.mpr c41
            have c41b1 : (t113 != 1000) = true := bne_iff_ne.mpr c41
            (first | rw [c41b0] | (simp only [i64_w, i32_w]; rw [c41b0]) | skip)
            replace H := Option.bind_eq_some_iff.mp H
            obtain ⟨t114, A420, H⟩ := H
            replace H : (if t114 = true then ((emendationlaw06_plain.f kj7 a1_1).bind fun t115 => (if t115 = true then ((emendationlaw06_plain.f kj7 a1_2).bind fun t116 => (emendationlaw06_MarksBack.j1 kj7 l2 l3 l4 l5 l6 t113 (!t116) a1_0 a1_1 a1_2)) else (emendationlaw06_MarksBack.j1 kj7 l2 l3 l4 l5 l6 t113 true a1_0 a1_1 a1_2))) else (emendationlaw06_MarksBack.j1 kj7 l2 l3 l4 l5 l6 t113 true a1_0 a1_1 a1_2)) = some r := H
            have A42 := Aside0.mk A420
            clear A420
            by_cases c43 : t114 = true
            · subst c43
              have H1 : ((emendationlaw06_plain.f kj7 a1_1).bind fun t115 => (if t115 = true then ((emendationlaw06_plain.f kj7 a1_2).bind fun t116 => (emendationlaw06_MarksBack.j1 kj7 l2 l3 l4 l5 l6 t113 (!t116) a1_0 a1_1 a1_2)) else (emendationlaw06_MarksBack.j1 kj7 l2 l3 l4 l5 l6 t113 true a1_0 a1_1 a1_2))) = some r := by rw [if_pos rfl] at H; exact H
              clear H
              have H := H1
              clear H1
              replace H := Option.bind_eq_some_iff.mp H
              obtain ⟨t115, A440, H⟩ := H
              replace H : (if t115 = true then ((emendationlaw06_plain.f kj7 a1_2).bind fun t116 => (emendationlaw06_MarksBack.j1 kj7 l2 l3 l4 l5 l6 t113 (!t116) a1_0 a1_1 a1_2)) else (emendationlaw06_MarksBack.j1 kj7 l2 l3 l4 l5 l6 t113 true a1_0 a1_1 a1_2)) = some r := H
              have A44 := Aside0.mk A440
              clear A440
              by_cases c45 : t115 = true
              · subst c45
                have H1 : ((emendationlaw06_plain.f kj7 a1_2).bind fun t116 => (emendationlaw06_MarksBack.j1 kj7 l2 l3 l4 l5 l6 t113 (!t116) a1_0 a1_1 a1_2)) = some r := by rw [if_pos rfl] at H; exact H
                clear H
                have H := H1
                clear H1
                replace H := Option.bind_eq_some_iff.mp H
                obtain ⟨t116, A460, H⟩ := H
                replace H : (emendationlaw06_MarksBack.j1 kj7 l2 l3 l4 l5 l6 t113 (!t116) a1_0 a1_1 a1_2) = some r := H
                have A46 := Aside0.mk A460
                clear A460
                have H' := Aside0.mk H
                clear H
                have hcz47_0 : w40.cell? ⟨gb101, 0, none⟩ = some (.string a1_0) := (blk_cell BK101.out 0).trans rfl
                have hcz47_1 : w40.cell? ⟨gb101, 1, none⟩ = some (.string a1_1) := (blk_cell BK101.out 1).trans rfl
                have hcz47_2 : w40.cell? ⟨gb101, 2, none⟩ = some (.string a1_2) := (blk_cell BK101.out 2).trans rfl
                have hfz47_0 := blk_frozen BK101.out 0
                have hfz47_1 := blk_frozen BK101.out 1
                have hfz47_2 := blk_frozen BK101.out 2
                go_wp2_with (first | (go_at_call 44; (with_reducible refine (emendationlaw06_plain.calls kj7 a1_0 true _ A42.out).mono ?_); rintro e w48 ⟨rfl, hb⟩; have n0_ := Aside0.mk (Kd.V_below (by (with_reducible repeat (first | apply Kd.V_alloc | apply Kd.V_drewN | apply Kd.V_drew)); exact HO_2.out) hb); have n1_ := Aside0.mk (Kd.V_below (by (with_reducible repeat (first | apply Kd.V_alloc | apply Kd.V_drewN | apply Kd.V_drew)); exact HO_3.out) hb); have n2_ := Aside0.mk (Kd.V_below (by (with_reducible repeat (first | apply Kd.V_alloc | apply Kd.V_drewN | apply Kd.V_drew)); exact HO_4.out) hb); have n3_ := Aside0.mk (Kd.V_below (by (with_reducible repeat (first | apply Kd.V_alloc | apply Kd.V_drewN | apply Kd.V_drew)); exact HO_5.out) hb); have n4_ := Aside0.mk (Kd.V_below (by (with_reducible repeat (first | apply Kd.V_alloc | apply Kd.V_drewN | apply Kd.V_drew)); exact HO_6.out) hb); have n5_ := Aside0.mk (Kd.N_below (by (with_reducible repeat (first | apply Kd.N_alloc | apply Kd.N_drewN | apply Kd.N_drew)); exact HO112.out) hb); have n6_ := Aside0.mk (blk_below (g := gb101) (o := .cells #[.string a1_0, .string a1_1, .string a1_2] 47 (0, 0)) (by (with_reducible repeat (first | refine blk_drewN ?_ _ | refine blk_drew ?_ | refine blk_alloc ?_ _)); exact BK101.out) hb); have n7_ := Aside0.mk (below_step (by repeat (first | (with_reducible first | exact HB.out | apply below_alloc | apply pw_below_drewN | apply below_drew1 | refine below_set ?_ GE101.out) | exact HB.out)) hb); clear HO_2; clear HO_3; clear HO_4; clear HO_5; clear HO_6; clear HO112; clear BK101; clear HB; have HO_2 := n0_; have HO_3 := n1_; have HO_4 := n2_; have HO_5 := n3_; have HO_6 := n4_; have HO112 := n5_; have BK101 := n6_; have HB := n7_; clear n0_ n1_ n2_ n3_ n4_ n5_ n6_ n7_; (try clear hb); (try clear hb2); (try clear hk); (try clear hi); have hcz49_0 : w48.cell? ⟨gb101, 0, none⟩ = some (.string a1_0) := (blk_cell BK101.out 0).trans rfl; have hcz49_1 : w48.cell? ⟨gb101, 1, none⟩ = some (.string a1_1) := (blk_cell BK101.out 1).trans rfl; have hcz49_2 : w48.cell? ⟨gb101, 2, none⟩ = some (.string a1_2) := (blk_cell BK101.out 2).trans rfl; have hfz49_0 := blk_frozen BK101.out 0; have hfz49_1 := blk_frozen BK101.out 1; have hfz49_2 := blk_frozen BK101.out 2) | (go_at_call 44; (with_reducible refine (emendationlaw06_plain.calls kj7 a1_1 true _ A44.out).mono ?_); rintro e w50 ⟨rfl, hb⟩; have n0_ := Aside0.mk (Kd.V_below (by (with_reducible repeat (first | apply Kd.V_alloc | apply Kd.V_drewN | apply Kd.V_drew)); exact HO_2.out) hb); have n1_ := Aside0.mk (Kd.V_below (by (with_reducible repeat (first | apply Kd.V_alloc | apply Kd.V_drewN | apply Kd.V_drew)); exact HO_3.out) hb); have n2_ := Aside0.mk (Kd.V_below (by (with_reducible repeat (first | apply Kd.V_alloc | apply Kd.V_drewN | apply Kd.V_drew)); exact HO_4.out) hb); have n3_ := Aside0.mk (Kd.V_below (by (with_reducible repeat (first | apply Kd.V_alloc | apply Kd.V_drewN | apply Kd.V_drew)); exact HO_5.out) hb); have n4_ := Aside0.mk (Kd.V_below (by (with_reducible repeat (first | apply Kd.V_alloc | apply Kd.V_drewN | apply Kd.V_drew)); exact HO_6.out) hb); have n5_ := Aside0.mk (Kd.N_below (by (with_reducible repeat (first | apply Kd.N_alloc | apply Kd.N_drewN | apply Kd.N_drew)); exact HO112.out) hb); have n6_ := Aside0.mk (blk_below (g := gb101) (o := .cells #[.string a1_0, .string a1_1, .string a1_2] 47 (0, 0)) (by (with_reducible repeat (first | refine blk_drewN ?_ _ | refine blk_drew ?_ | refine blk_alloc ?_ _)); exact BK101.out) hb); have n7_ := Aside0.mk (below_step (by repeat (first | (with_reducible first | exact HB.out | apply below_alloc | apply pw_below_drewN | apply below_drew1 | refine below_set ?_ GE101.out) | exact HB.out)) hb); clear HO_2; clear HO_3; clear HO_4; clear HO_5; clear HO_6; clear HO112; clear BK101; clear HB; have HO_2 := n0_; have HO_3 := n1_; have HO_4 := n2_; have HO_5 := n3_; have HO_6 := n4_; have HO112 := n5_; have BK101 := n6_; have HB := n7_; clear n0_ n1_ n2_ n3_ n4_ n5_ n6_ n7_; (try clear hb); (try clear hb2); (try clear hk); (try clear hi); have hcz51_0 : w50.cell? ⟨gb101, 0, none⟩ = some (.string a1_0) := (blk_cell BK101.out 0).trans rfl; have hcz51_1 : w50.cell? ⟨gb101, 1, none⟩ = some (.string a1_1) := (blk_cell BK101.out 1).trans rfl; have hcz51_2 : w50.cell? ⟨gb101, 2, none⟩ = some (.string a1_2) := (blk_cell BK101.out 2).trans rfl; have hfz51_0 := blk_frozen BK101.out 0; have hfz51_1 := blk_frozen BK101.out 1; have hfz51_2 := blk_frozen BK101.out 2) | (go_at_call 44; (with_reducible refine (emendationlaw06_plain.calls kj7 a1_2 t116 _ A46.out).mono ?_); rintro e w52 ⟨rfl, hb⟩; have n0_ := Aside0.mk (Kd.V_below (by (with_reducible repeat (first | apply Kd.V_alloc | apply Kd.V_drewN | apply Kd.V_drew)); exact HO_2.out) hb); have n1_ := Aside0.mk (Kd.V_below (by (with_reducible repeat (first | apply Kd.V_alloc | apply Kd.V_drewN | apply Kd.V_drew)); exact HO_3.out) hb); have n2_ := Aside0.mk (Kd.V_below (by (with_reducible repeat (first | apply Kd.V_alloc | apply Kd.V_drewN | apply Kd.V_drew)); exact HO_4.out) hb); have n3_ := Aside0.mk (Kd.V_below (by (with_reducible repeat (first | apply Kd.V_alloc | apply Kd.V_drewN | apply Kd.V_drew)); exact HO_5.out) hb); have n4_ := Aside0.mk (Kd.V_below (by (with_reducible repeat (first | apply Kd.V_alloc | apply Kd.V_drewN | apply Kd.V_drew)); exact HO_6.out) hb); have n5_ := Aside0.mk (Kd.N_below (by (with_reducible repeat (first | apply Kd.N_alloc | apply Kd.N_drewN | apply Kd.N_drew)); exact HO112.out) hb); have n6_ := Aside0.mk (blk_below (g := gb101) (o := .cells #[.string a1_0, .string a1_1, .string a1_2] 47 (0, 0)) (by (with_reducible repeat (first | refine blk_drewN ?_ _ | refine blk_drew ?_ | refine blk_alloc ?_ _)); exact BK101.out) hb); have n7_ := Aside0.mk (below_step (by repeat (first | (with_reducible first | exact HB.out | apply below_alloc | apply pw_below_drewN | apply below_drew1 | refine below_set ?_ GE101.out) | exact HB.out)) hb); clear HO_2; clear HO_3; clear HO_4; clear HO_5; clear HO_6; clear HO112; clear BK101; clear HB; have HO_2 := n0_; have HO_3 := n1_; have HO_4 := n2_; have HO_5 := n3_; have HO_6 := n4_; have HO112 := n5_; have BK101 := n6_; have HB := n7_; clear n0_ n1_ n2_ n3_ n4_ n5_ n6_ n7_; (try clear hb); (try clear hb2); (try clear hk); (try clear hi)))
                go_meet
                case rel => exact ⟨_, (!t116), (by first | rfl | (simp; done) | (simp [*]; done)), H', ⟨by have := HJ7.out; first | omega | exact Nat.le_refl _⟩, ⟨by (with_reducible repeat (first | apply Kd.V_alloc | apply Kd.V_drewN | apply Kd.V_drew)); exact Kd.V_mono HO_2.out (fun _ hk => ⟨hk.1.1, hk.1.2⟩)⟩, ⟨by (with_reducible repeat (first | apply Kd.V_alloc | apply Kd.V_drewN | apply Kd.V_drew)); exact Kd.V_mono HO_3.out (fun _ hk => ⟨hk.1.1, hk.1.2⟩)⟩, ⟨by (with_reducible repeat (first | apply Kd.V_alloc | apply Kd.V_drewN | apply Kd.V_drew)); exact Kd.V_mono HO_4.out (fun _ hk => ⟨hk.1.1, hk.1.2⟩)⟩, ⟨by (with_reducible repeat (first | apply Kd.V_alloc | apply Kd.V_drewN | apply Kd.V_drew)); exact Kd.V_mono HO_5.out (fun _ hk => ⟨hk.1.1, hk.1.2⟩)⟩, ⟨by (with_reducible repeat (first | apply Kd.V_alloc | apply Kd.V_drewN | apply Kd.V_drew)); exact Kd.V_mono HO_6.out (fun _ hk => ⟨hk.1.1, hk.1.2⟩)⟩, ⟨by (with_reducible repeat (first | refine blk_drewN ?_ _ | refine blk_drew ?_ | refine blk_alloc ?_ _)); exact BK101.out⟩, ⟨by repeat (first | (with_reducible first | exact HB.out | apply below_alloc | apply pw_below_drewN | apply below_drew1 | refine below_set ?_ GE101.out) | exact HB.out)⟩⟩
              · replace c45 := Bool.eq_false_iff.mpr c45
                subst c45
                have H1 : (emendationlaw06_MarksBack.j1 kj7 l2 l3 l4 l5 l6 t113 true a1_0 a1_1 a1_2) = some r := by rw [if_neg (show ¬ (false = true) by decide)] at H; exact H
                clear H
                have H := H1
                clear H1
                have H' := Aside0.mk H
                clear H
                have hcz53_0 : w40.cell? ⟨gb101, 0, none⟩ = some (.string a1_0) := (blk_cell BK101.out 0).trans rfl
                have hcz53_1 : w40.cell? ⟨gb101, 1, none⟩ = some (.string a1_1) := (blk_cell BK101.out 1).trans rfl
                have hcz53_2 : w40.cell? ⟨gb101, 2, none⟩ = some (.string a1_2) := (blk_cell BK101.out 2).trans rfl
                have hfz53_0 := blk_frozen BK101.out 0
                have hfz53_1 := blk_frozen BK101.out 1
                have hfz53_2 := blk_frozen BK101.out 2
                go_wp2_with (first | (go_at_call 44; (with_reducible refine (emendationlaw06_plain.calls kj7 a1_0 true _ A42.out).mono ?_); rintro e w54 ⟨rfl, hb⟩; have n0_ := Aside0.mk (Kd.V_below (by (with_reducible repeat (first | apply Kd.V_alloc | apply Kd.V_drewN | apply Kd.V_drew)); exact HO_2.out) hb); have n1_ := Aside0.mk (Kd.V_below (by (with_reducible repeat (first | apply Kd.V_alloc | apply Kd.V_drewN | apply Kd.V_drew)); exact HO_3.out) hb); have n2_ := Aside0.mk (Kd.V_below (by (with_reducible repeat (first | apply Kd.V_alloc | apply Kd.V_drewN | apply Kd.V_drew)); exact HO_4.out) hb); have n3_ := Aside0.mk (Kd.V_below (by (with_reducible repeat (first | apply Kd.V_alloc | apply Kd.V_drewN | apply Kd.V_drew)); exact HO_5.out) hb); have n4_ := Aside0.mk (Kd.V_below (by (with_reducible repeat (first | apply Kd.V_alloc | apply Kd.V_drewN | apply Kd.V_drew)); exact HO_6.out) hb); have n5_ := Aside0.mk (Kd.N_below (by (with_reducible repeat (first | apply Kd.N_alloc | apply Kd.N_drewN | apply Kd.N_drew)); exact HO112.out) hb); have n6_ := Aside0.mk (blk_below (g := gb101) (o := .cells #[.string a1_0, .string a1_1, .string a1_2] 47 (0, 0)) (by (with_reducible repeat (first | refine blk_drewN ?_ _ | refine blk_drew ?_ | refine blk_alloc ?_ _)); exact BK101.out) hb); have n7_ := Aside0.mk (below_step (by repeat (first | (with_reducible first | exact HB.out | apply below_alloc | apply pw_below_drewN | apply below_drew1 | refine below_set ?_ GE101.out) | exact HB.out)) hb); clear HO_2; clear HO_3; clear HO_4; clear HO_5; clear HO_6; clear HO112; clear BK101; clear HB; have HO_2 := n0_; have HO_3 := n1_; have HO_4 := n2_; have HO_5 := n3_; have HO_6 := n4_; have HO112 := n5_; have BK101 := n6_; have HB := n7_; clear n0_ n1_ n2_ n3_ n4_ n5_ n6_ n7_; (try clear hb); (try clear hb2); (try clear hk); (try clear hi); have hcz55_0 : w54.cell? ⟨gb101, 0, none⟩ = some (.string a1_0) := (blk_cell BK101.out 0).trans rfl; have hcz55_1 : w54.cell? ⟨gb101, 1, none⟩ = some (.string a1_1) := (blk_cell BK101.out 1).trans rfl; have hcz55_2 : w54.cell? ⟨gb101, 2, none⟩ = some (.string a1_2) := (blk_cell BK101.out 2).trans rfl; have hfz55_0 := blk_frozen BK101.out 0; have hfz55_1 := blk_frozen BK101.out 1; have hfz55_2 := blk_frozen BK101.out 2) | (go_at_call 44; (with_reducible refine (emendationlaw06_plain.calls kj7 a1_1 false _ A44.out).mono ?_); rintro e w56 ⟨rfl, hb⟩; have n0_ := Aside0.mk (Kd.V_below (by (with_reducible repeat (first | apply Kd.V_alloc | apply Kd.V_drewN | apply Kd.V_drew)); exact HO_2.out) hb); have n1_ := Aside0.mk (Kd.V_below (by (with_reducible repeat (first | apply Kd.V_alloc | apply Kd.V_drewN | apply Kd.V_drew)); exact HO_3.out) hb); have n2_ := Aside0.mk (Kd.V_below (by (with_reducible repeat (first | apply Kd.V_alloc | apply Kd.V_drewN | apply Kd.V_drew)); exact HO_4.out) hb); have n3_ := Aside0.mk (Kd.V_below (by (with_reducible repeat (first | apply Kd.V_alloc | apply Kd.V_drewN | apply Kd.V_drew)); exact HO_5.out) hb); have n4_ := Aside0.mk (Kd.V_below (by (with_reducible repeat (first | apply Kd.V_alloc | apply Kd.V_drewN | apply Kd.V_drew)); exact HO_6.out) hb); have n5_ := Aside0.mk (Kd.N_below (by (with_reducible repeat (first | apply Kd.N_alloc | apply Kd.N_drewN | apply Kd.N_drew)); exact HO112.out) hb); have n6_ := Aside0.mk (blk_below (g := gb101) (o := .cells #[.string a1_0, .string a1_1, .string a1_2] 47 (0, 0)) (by (with_reducible repeat (first | refine blk_drewN ?_ _ | refine blk_drew ?_ | refine blk_alloc ?_ _)); exact BK101.out) hb); have n7_ := Aside0.mk (below_step (by repeat (first | (with_reducible first | exact HB.out | apply below_alloc | apply pw_below_drewN | apply below_drew1 | refine below_set ?_ GE101.out) | exact HB.out)) hb); clear HO_2; clear HO_3; clear HO_4; clear HO_5; clear HO_6; clear HO112; clear BK101; clear HB; have HO_2 := n0_; have HO_3 := n1_; have HO_4 := n2_; have HO_5 := n3_; have HO_6 := n4_; have HO112 := n5_; have BK101 := n6_; have HB := n7_; clear n0_ n1_ n2_ n3_ n4_ n5_ n6_ n7_; (try clear hb); (try clear hb2); (try clear hk); (try clear hi)))
                go_meet
                case rel => exact ⟨_, (true), (by first | rfl | (simp; done) | (simp [*]; done)), H', ⟨by have := HJ7.out; first | omega | exact Nat.le_refl _⟩, ⟨by (with_reducible repeat (first | apply Kd.V_alloc | apply Kd.V_drewN | apply Kd.V_drew)); exact Kd.V_mono HO_2.out (fun _ hk => ⟨hk.1.1, hk.1.2⟩)⟩, ⟨by (with_reducible repeat (first | apply Kd.V_alloc | apply Kd.V_drewN | apply Kd.V_drew)); exact Kd.V_mono HO_3.out (fun _ hk => ⟨hk.1.1, hk.1.2⟩)⟩, ⟨by (with_reducible repeat (first | apply Kd.V_alloc | apply Kd.V_drewN | apply Kd.V_drew)); exact Kd.V_mono HO_4.out (fun _ hk => ⟨hk.1.1, hk.1.2⟩)⟩, ⟨by (with_reducible repeat (first | apply Kd.V_alloc | apply Kd.V_drewN | apply Kd.V_drew)); exact Kd.V_mono HO_5.out (fun _ hk => ⟨hk.1.1, hk.1.2⟩)⟩, ⟨by (with_reducible repeat (first | apply Kd.V_alloc | apply Kd.V_drewN | apply Kd.V_drew)); exact Kd.V_mono HO_6.out (fun _ hk => ⟨hk.1.1, hk.1.2⟩)⟩, ⟨by (with_reducible repeat (first | refine blk_drewN ?_ _ | refine blk_drew ?_ | refine blk_alloc ?_ _)); exact BK101.out⟩, ⟨by repeat (first | (with_reducible first | exact HB.out | apply below_alloc | apply pw_below_drewN | apply below_drew1 | refine below_set ?_ GE101.out) | exact HB.out)⟩⟩
            · replace c43 := Bool.eq_false_iff.mpr c43
              subst c43
              have H1 : (emendationlaw06_MarksBack.j1 kj7 l2 l3 l4 l5 l6 t113 true a1_0 a1_1 a1_2) = some r := by rw [if_neg (show ¬ (false = true) by decide)] at H; exact H
              clear H
              have H := H1
              clear H1
              have H' := Aside0.mk H
              clear H
              have hcz57_0 : w40.cell? ⟨gb101, 0, none⟩ = some (.string a1_0) := (blk_cell BK101.out 0).trans rfl
              have hcz57_1 : w40.cell? ⟨gb101, 1, none⟩ = some (.string a1_1) := (blk_cell BK101.out 1).trans rfl
              have hcz57_2 : w40.cell? ⟨gb101, 2, none⟩ = some (.string a1_2) := (blk_cell BK101.out 2).trans rfl
              have hfz57_0 := blk_frozen BK101.out 0
              have hfz57_1 := blk_frozen BK101.out 1
              have hfz57_2 := blk_frozen BK101.out 2
              go_wp2_with (first | (go_at_call 44; (with_reducible refine (emendationlaw06_plain.calls kj7 a1_0 false _ A42.out).mono ?_); rintro e w58 ⟨rfl, hb⟩; have n0_ := Aside0.mk (Kd.V_below (by (with_reducible repeat (first | apply Kd.V_alloc | apply Kd.V_drewN | apply Kd.V_drew)); exact HO_2.out) hb); have n1_ := Aside0.mk (Kd.V_below (by (with_reducible repeat (first | apply Kd.V_alloc | apply Kd.V_drewN | apply Kd.V_drew)); exact HO_3.out) hb); have n2_ := Aside0.mk (Kd.V_below (by (with_reducible repeat (first | apply Kd.V_alloc | apply Kd.V_drewN | apply Kd.V_drew)); exact HO_4.out) hb); have n3_ := Aside0.mk (Kd.V_below (by (with_reducible repeat (first | apply Kd.V_alloc | apply Kd.V_drewN | apply Kd.V_drew)); exact HO_5.out) hb); have n4_ := Aside0.mk (Kd.V_below (by (with_reducible repeat (first | apply Kd.V_alloc | apply Kd.V_drewN | apply Kd.V_drew)); exact HO_6.out) hb); have n5_ := Aside0.mk (Kd.N_below (by (with_reducible repeat (first | apply Kd.N_alloc | apply Kd.N_drewN | apply Kd.N_drew)); exact HO112.out) hb); have n6_ := Aside0.mk (blk_below (g := gb101) (o := .cells #[.string a1_0, .string a1_1, .string a1_2] 47 (0, 0)) (by (with_reducible repeat (first | refine blk_drewN ?_ _ | refine blk_drew ?_ | refine blk_alloc ?_ _)); exact BK101.out) hb); have n7_ := Aside0.mk (below_step (by repeat (first | (with_reducible first | exact HB.out | apply below_alloc | apply pw_below_drewN | apply below_drew1 | refine below_set ?_ GE101.out) | exact HB.out)) hb); clear HO_2; clear HO_3; clear HO_4; clear HO_5; clear HO_6; clear HO112; clear BK101; clear HB; have HO_2 := n0_; have HO_3 := n1_; have HO_4 := n2_; have HO_5 := n3_; have HO_6 := n4_; have HO112 := n5_; have BK101 := n6_; have HB := n7_; clear n0_ n1_ n2_ n3_ n4_ n5_ n6_ n7_; (try clear hb); (try clear hb2); (try clear hk); (try clear hi)))
              go_meet
              case rel => exact ⟨_, (true), (by first | rfl | (simp; done) | (simp [*]; done)), H', ⟨by have := HJ7.out; first | omega | exact Nat.le_refl _⟩, ⟨by (with_reducible repeat (first | apply Kd.V_alloc | apply Kd.V_drewN | apply Kd.V_drew)); exact Kd.V_mono HO_2.out (fun _ hk => ⟨hk.1.1, hk.1.2⟩)⟩, ⟨by (with_reducible repeat (first | apply Kd.V_alloc | apply Kd.V_drewN | apply Kd.V_drew)); exact Kd.V_mono HO_3.out (fun _ hk => ⟨hk.1.1, hk.1.2⟩)⟩, ⟨by (with_reducible repeat (first | apply Kd.V_alloc | apply Kd.V_drewN | apply Kd.V_drew)); exact Kd.V_mono HO_4.out (fun _ hk => ⟨hk.1.1, hk.1.2⟩)⟩, ⟨by (with_reducible repeat (first | apply Kd.V_alloc | apply Kd.V_drewN | apply Kd.V_drew)); exact Kd.V_mono HO_5.out (fun _ hk => ⟨hk.1.1, hk.1.2⟩)⟩, ⟨by (with_reducible repeat (first | apply Kd.V_alloc | apply Kd.V_drewN | apply Kd.V_drew)); exact Kd.V_mono HO_6.out (fun _ hk => ⟨hk.1.1, hk.1.2⟩)⟩, ⟨by (with_reducible repeat (first | refine blk_drewN ?_ _ | refine blk_drew ?_ | refine blk_alloc ?_ _)); exact BK101.out⟩, ⟨by repeat (first | (with_reducible first | exact HB.out | apply below_alloc | apply pw_below_drewN | apply below_drew1 | refine below_set ?_ GE101.out) | exact HB.out)⟩⟩
        case rest =>
          clear HC36
          try clear c1
          try clear c2
          try clear p2
          try clear c3
          try clear c4
          try clear c5
          try clear c6
          try clear c11
          try clear c13
          try clear c15
          try clear c17
          try clear c19
          try clear c21
          try clear c25
          try clear c32
          try clear c39
          try clear c41
          try clear c41b0
          try clear c41b1
          try clear c43
          try clear c45
          try clear hcz24_0
          try clear hcz24_1
          try clear hcz24_2
          try clear hcz47_0
          try clear hcz47_1
          try clear hcz47_2
          try clear hcz49_0
          try clear hcz49_1
          try clear hcz49_2
          try clear hcz51_0
          try clear hcz51_1
          try clear hcz51_2
          try clear hcz53_0
          try clear hcz53_1
          try clear hcz53_2
          try clear hcz55_0
          try clear hcz55_1
          try clear hcz55_2
          try clear hcz57_0
          try clear hcz57_1
          try clear hcz57_2
          try clear hfz24_0
          try clear hfz24_1
          try clear hfz24_2
          try clear hfz47_0
          try clear hfz47_1
          try clear hfz47_2
          try clear hfz49_0
          try clear hfz49_1
          try clear hfz49_2
          try clear hfz51_0
          try clear hfz51_1
          try clear hfz51_2
          try clear hfz53_0
          try clear hfz53_1
          try clear hfz53_2
          try clear hfz55_0
          try clear hfz55_1
          try clear hfz55_2
          try clear hfz57_0
          try clear hfz57_1
          try clear hfz57_2
          try clear p2
          obtain ⟨kq, x82_35, rfl, HA, HJ35, HO_2, HO_3, HO_4, HO_5, HO_6, BK101, HB⟩ := hcut
          cases kq with
          | zero => exact absurd HA.out (by simp [emendationlaw06_MarksBack.j1])
          | succ kj35 =>
            have H := HA.out
            clear HA
            simp only [emendationlaw06_MarksBack.j1] at H
            by_cases c59 : x82_35 = true
            · subst c59
              have H1 : (if t113 ≥ 7 then (some (decide (t113 ≤ 1000))) else (some false)) = some r := by rw [if_pos rfl] at H; exact H
              clear H
              have H := H1
              clear H1
              by_cases c60 : t113 ≥ 7
              · rw [if_pos c60] at H
                have c60b0 : decide (7 ≤ t113) = true := decide_eq_true c60
                clear c60
                obtain rfl := Option.some.inj H
                go_wp2
                go_ret
                exact ⟨by first | rfl | (simp [errW_none, errW_some] <;> rfl) | (simp [*, errW_none, errW_some] <;> rfl), by repeat (first | (with_reducible first | exact HB.out | apply below_alloc | apply pw_below_drewN | apply below_drew1 | refine below_set ?_ GE101.out) | exact HB.out)⟩
              · rw [if_neg c60] at H
                have c60b0 : decide (7 ≤ t113) = false := decide_eq_false c60
                clear c60
                obtain rfl := Option.some.inj H
                go_wp2
                go_ret
                exact ⟨by first | rfl | (simp [errW_none, errW_some] <;> rfl) | (simp [*, errW_none, errW_some] <;> rfl), by repeat (first | (with_reducible first | exact HB.out | apply below_alloc | apply pw_below_drewN | apply below_drew1 | refine below_set ?_ GE101.out) | exact HB.out)⟩
            · replace c59 := Bool.eq_false_iff.mpr c59
              subst c59
              have H1 : ((some (([] : List ByteArray) : List ByteArray)).bind fun y117 => (if y117.length + l5.length < 8796093022208 then ((some (y117 ++ l5 : List ByteArray)).bind fun y120 => ((marks_Region.f t113 a1_0 a1_1 a1_2 l2 l3 l4).bind fun t123 => (if y120.length + t123.length < 8796093022208 then ((some (y120 ++ t123 : List ByteArray)).bind fun y126 => (if y126.length + l6.length < 8796093022208 then ((some (([l2, l3, l4] : List (List ByteArray)) : List (List ByteArray))).bind fun y132 => (emendationlaw06_MarksBack.l0 kj35 l5 l6 t113 (y126 ++ l6) y132 (y132.length : Int) 0)) else (none))) else (none)))) else (none))) = some r := by rw [if_neg (show ¬ (false = true) by decide)] at H; exact H
              clear H
              have H := H1
              clear H1
              obtain ⟨y117, hy117⟩ : ∃ y_ : List ByteArray, y_ = (([] : List ByteArray)) := ⟨_, rfl⟩
              replace H : (if y117.length + l5.length < 8796093022208 then ((some (y117 ++ l5 : List ByteArray)).bind fun y120 => ((marks_Region.f t113 a1_0 a1_1 a1_2 l2 l3 l4).bind fun t123 => (if y120.length + t123.length < 8796093022208 then ((some (y120 ++ t123 : List ByteArray)).bind fun y126 => (if y126.length + l6.length < 8796093022208 then ((some (([l2, l3, l4] : List (List ByteArray)) : List (List ByteArray))).bind fun y132 => (emendationlaw06_MarksBack.l0 kj35 l5 l6 t113 (y126 ++ l6) y132 (y132.length : Int) 0)) else (none))) else (none)))) else (none)) = some r := by first | (rw [hy117]; with_reducible exact H) | (have H2_ := (Option.bind_some _ _).symm.trans H; rw [hy117]; with_reducible exact H2_) | (have H2_ := (Option.bind_some _ _).symm.trans H; with_reducible exact H2_) | with_reducible exact H | (rw [hy117]; exact H) | exact H
              have Ny117 := Aside0.mk hy117
              clear hy117
              by_cases c61 : y117.length + l5.length < 8796093022208
              · rw [if_pos c61] at H
                have LMc61 := Aside0.mk c61
                clear c61
                obtain ⟨y120, hy120⟩ : ∃ y_ : List ByteArray, y_ = (y117 ++ l5) := ⟨_, rfl⟩
                replace H : ((marks_Region.f t113 a1_0 a1_1 a1_2 l2 l3 l4).bind fun t123 => (if y120.length + t123.length < 8796093022208 then ((some (y120 ++ t123 : List ByteArray)).bind fun y126 => (if y126.length + l6.length < 8796093022208 then ((some (([l2, l3, l4] : List (List ByteArray)) : List (List ByteArray))).bind fun y132 => (emendationlaw06_MarksBack.l0 kj35 l5 l6 t113 (y126 ++ l6) y132 (y132.length : Int) 0)) else (none))) else (none))) = some r := by first | (rw [hy120]; with_reducible exact H) | (have H2_ := (Option.bind_some _ _).symm.trans H; rw [hy120]; with_reducible exact H2_) | (have H2_ := (Option.bind_some _ _).symm.trans H; with_reducible exact H2_) | with_reducible exact H | (rw [hy120]; exact H) | exact H
                have Ny120 := Aside0.mk hy120
                clear hy120
                replace H := Option.bind_eq_some_iff.mp H
                obtain ⟨t123, A620, H⟩ := H
                replace H : (if y120.length + t123.length < 8796093022208 then ((some (y120 ++ t123 : List ByteArray)).bind fun y126 => (if y126.length + l6.length < 8796093022208 then ((some (([l2, l3, l4] : List (List ByteArray)) : List (List ByteArray))).bind fun y132 => (emendationlaw06_MarksBack.l0 kj35 l5 l6 t113 (y126 ++ l6) y132 (y132.length : Int) 0)) else (none))) else (none)) = some r := H
                have A62 := Aside0.mk A620
                clear A620
                by_cases c63 : y120.length + t123.length < 8796093022208
                · rw [if_pos c63] at H
                  have LMc63 := Aside0.mk c63
                  clear c63
                  obtain ⟨y126, hy126⟩ : ∃ y_ : List ByteArray, y_ = (y120 ++ t123) := ⟨_, rfl⟩
                  replace H : (if y126.length + l6.length < 8796093022208 then ((some (([l2, l3, l4] : List (List ByteArray)) : List (List ByteArray))).bind fun y132 => (emendationlaw06_MarksBack.l0 kj35 l5 l6 t113 (y126 ++ l6) y132 (y132.length : Int) 0)) else (none)) = some r := by first | (rw [hy126]; with_reducible exact H) | (have H2_ := (Option.bind_some _ _).symm.trans H; rw [hy126]; with_reducible exact H2_) | (have H2_ := (Option.bind_some _ _).symm.trans H; with_reducible exact H2_) | with_reducible exact H | (rw [hy126]; exact H) | exact H
                  have Ny126 := Aside0.mk hy126
                  clear hy126
                  by_cases c64 : y126.length + l6.length < 8796093022208
                  · rw [if_pos c64] at H
                    have LMc64 := Aside0.mk c64
                    clear c64
                    obtain ⟨y129, hy129⟩ : ∃ y_ : List ByteArray, y_ = (y126 ++ l6) := ⟨_, rfl⟩
                    replace H : ((some (([l2, l3, l4] : List (List ByteArray)) : List (List ByteArray))).bind fun y132 => (emendationlaw06_MarksBack.l0 kj35 l5 l6 t113 y129 y132 (y132.length : Int) 0)) = some r := by first | (rw [hy129]; with_reducible exact H) | (have H2_ := (Option.bind_some _ _).symm.trans H; rw [hy129]; with_reducible exact H2_) | (have H2_ := (Option.bind_some _ _).symm.trans H; with_reducible exact H2_) | with_reducible exact H | (rw [hy129]; exact H) | exact H
                    have Ny129 := Aside0.mk hy129
                    clear hy129
                    obtain ⟨y132, hy132⟩ : ∃ y_ : List (List ByteArray), y_ = (([l2, l3, l4] : List (List ByteArray))) := ⟨_, rfl⟩
                    replace H : (emendationlaw06_MarksBack.l0 kj35 l5 l6 t113 y129 y132 (y132.length : Int) 0) = some r := by first | (rw [hy132]; with_reducible exact H) | (have H2_ := (Option.bind_some _ _).symm.trans H; rw [hy132]; with_reducible exact H2_) | (have H2_ := (Option.bind_some _ _).symm.trans H; with_reducible exact H2_) | with_reducible exact H | (rw [hy132]; exact H) | exact H
                    have Ny132 := Aside0.mk hy132
                    clear hy132
                    have H' := Aside0.mk H
                    clear H
                    try go_wp2
                    have n0_ := Aside0.mk (Kd.V_drew HO_2.out)
                    have n1_ := Aside0.mk (Kd.V_drew HO_3.out)
                    have n2_ := Aside0.mk (Kd.V_drew HO_4.out)
                    have n3_ := Aside0.mk (Kd.V_drew HO_5.out)
                    have n4_ := Aside0.mk (Kd.V_drew HO_6.out)
                    have n5_ := Aside0.mk (blk_drew BK101.out)
                    have n6_ := Aside0.mk (below_drew1 HB.out)
                    clear HO_2
                    clear HO_3
                    clear HO_4
                    clear HO_5
                    clear HO_6
                    clear BK101
                    clear HB
                    have HO_2 := n0_
                    have HO_3 := n1_
                    have HO_4 := n2_
                    have HO_5 := n3_
                    have HO_6 := n4_
                    have BK101 := n5_
                    have HB := n6_
                    clear n0_ n1_ n2_ n3_ n4_ n5_ n6_
                    refine start_ (n := 13) (S := fun w' => w'.cell? ⟨gb101, 0, none⟩ = some (.string a1_0) ∧ w'.cell? ⟨gb101, 1, none⟩ = some (.string a1_1) ∧ w'.cell? ⟨gb101, 2, none⟩ = some (.string a1_2)) (ds := []) #[false, false, false, false, false, false, false, false, false, false, false, false, false] (by kernel_rfl) rfl rfl ⟨(blk_cell BK101.out 0).trans rfl, (blk_cell BK101.out 1).trans rfl, (blk_cell BK101.out 2).trans rfl⟩ (fun hHeld => ?_); refine with_tabW emendationlaw06_MarksBack.tab6 emendationlaw06_MarksBack.bits6 (fun HT_ HW_ => ?_)
                    generalize wc.drew = w65 at HO_2 HO_3 HO_4 HO_5 HO_6 BK101 HB hHeld ⊢
                    refine pure_ (i := 1) (N := some 90) (v := ?_) (a' := ?_) #[false, true, false, false, false, false, false, false, false, false, false, false, false] rfl rfl (any_of HT_.out (by kernel_rfl)) (fun _ _ _ h => h) (Or.inl ⟨by rfl, ?_⟩) ?_ ?_
                    rotate_left
                    · intro w'
                      go_simp
                      with_reducible rfl
                    rotate_left
                    · simp only [Act.put, List.setIfInBounds_toArray, List.set_cons_zero, List.set_cons_succ, i64_w, i32_w]
                      rfl
                    refine pure_ (i := 3) (N := some 92) (v := ?_) (a' := ?_) #[false, true, false, true, false, false, false, false, false, false, false, false, false] rfl rfl (any_of HT_.out (by kernel_rfl)) (fun _ _ _ h => h) (Or.inl ⟨by rfl, ?_⟩) ?_ ?_
                    rotate_left
                    · intro w'
                      go_simp
                      with_reducible rfl
                    rotate_left
                    · simp only [Act.put, List.setIfInBounds_toArray, List.set_cons_zero, List.set_cons_succ, i64_w, i32_w]
                      rfl
                    refine pure_ (i := 5) (N := some 94) (v := ?_) (a' := ?_) #[false, true, false, true, false, true, false, false, false, false, false, false, false] rfl rfl (any_of HT_.out (by kernel_rfl)) (fun _ _ _ h => h) (Or.inl ⟨by rfl, ?_⟩) ?_ ?_
                    rotate_left
                    · intro w'
                      go_simp
                      with_reducible rfl
                    rotate_left
                    · simp only [Act.put, List.setIfInBounds_toArray, List.set_cons_zero, List.set_cons_succ, i64_w, i32_w]
                      rfl
                    refine pure_ (i := 6) (N := some 95) (v := ?_) (a' := ?_) #[false, true, false, true, false, true, true, false, false, false, false, false, false] rfl rfl (any_of HT_.out (by kernel_rfl)) (fun _ _ _ h => h) (Or.inl ⟨by rfl, ?_⟩) ?_ ?_
                    rotate_left
                    · intro w'
                      go_simp
                      with_reducible rfl
                    rotate_left
                    · simp only [Act.put, List.setIfInBounds_toArray, List.set_cons_zero, List.set_cons_succ, i64_w, i32_w]
                      rfl
                    refine pure_ (i := 7) (N := some 96) (v := ?_) (a' := ?_) #[false, true, false, true, false, true, true, true, false, false, false, false, false] rfl rfl (any_of HT_.out (by kernel_rfl)) (fun _ _ _ h => h) (Or.inl ⟨by rfl, ?_⟩) ?_ ?_
                    rotate_left
                    · intro w'
                      go_simp
                      with_reducible rfl
                    rotate_left
                    · simp only [Act.put, List.setIfInBounds_toArray, List.set_cons_zero, List.set_cons_succ, i64_w, i32_w]
                      rfl
                    refine pure_ (i := 10) (N := some 99) (v := ?_) (a' := ?_) #[false, true, false, true, false, true, true, true, false, false, true, false, false] rfl rfl (any_of HT_.out (by kernel_rfl)) (fun _ _ _ h => h) (Or.inl ⟨by rfl, ?_⟩) ?_ ?_
                    rotate_left
                    · intro w'
                      go_simp
                      with_reducible rfl
                    rotate_left
                    · simp only [Act.put, List.setIfInBounds_toArray, List.set_cons_zero, List.set_cons_succ, i64_w, i32_w]
                      rfl
                    refine take_ (i := 4) (N := some 93) (v := ?_) (a' := ?_) #[false, true, false, true, true, true, true, true, false, false, true, false, false] rfl rfl (take_ofW HT_.out HW_.out (by kernel_rfl)) (fun _ _ _ h => h) (Or.inl ⟨by rfl, ?_⟩) hHeld ?_ ?_
                    rotate_left
                    · rintro w' ⟨s0, s1, s2⟩
                      go_simp
                      with_reducible rfl
                    rotate_left
                    · simp only [Act.put, List.setIfInBounds_toArray, List.set_cons_zero, List.set_cons_succ, i64_w, i32_w]
                      rfl
                    refine one_ (i := 0) (N := some 89) #[true, true, false, true, true, true, true, true, false, false, true, false, false] rfl rfl (one_of HT_.out (by kernel_rfl)) (by decide) (fun K hK => ?_)
                    refine Kd.R_lit_step Kd.string _ 9 ?hg (N := 89) ?hd (xs := ([] : List ByteArray)) (inner := []) (ok := fun _ => True) (okp := fun _ => True) ?hr ?hp (fun _ hk => hk) trivial (Below.refl _ _) (Nat.le_refl _) (by simp) ?_; (case hd => rfl); (case hg => rfl); (case hr => first | (go_simp; done) | (go_simp; rfl)); (case hp => exact (Reps.none _ _))
                    intro v118 w66 ho67 hb hg_ hnew_
                    clear hg_ hnew_
                    (first | rw [← Ny117.out] at ho67 | (simp only [Int.reduceToNat] at ho67; rw [← Ny117.out] at ho67))
                    have n0_ := Aside0.mk (Kd.V_elder' (by (with_reducible repeat (first | apply Kd.V_alloc | apply Kd.V_drewN | apply Kd.V_drew)); exact HO_2.out) (Kd.R_base ho67) hb)
                    have n1_ := Aside0.mk (Kd.V_elder' (by (with_reducible repeat (first | apply Kd.V_alloc | apply Kd.V_drewN | apply Kd.V_drew)); exact HO_3.out) (Kd.R_base ho67) hb)
                    have n2_ := Aside0.mk (Kd.V_elder' (by (with_reducible repeat (first | apply Kd.V_alloc | apply Kd.V_drewN | apply Kd.V_drew)); exact HO_4.out) (Kd.R_base ho67) hb)
                    have n3_ := Aside0.mk (Kd.V_elder' (by (with_reducible repeat (first | apply Kd.V_alloc | apply Kd.V_drewN | apply Kd.V_drew)); exact HO_5.out) (Kd.R_base ho67) hb)
                    have n4_ := Aside0.mk (Kd.V_elder' (by (with_reducible repeat (first | apply Kd.V_alloc | apply Kd.V_drewN | apply Kd.V_drew)); exact HO_6.out) (Kd.R_base ho67) hb)
                    have n5_ := Aside0.mk (Kd.R_lower (Kd.R_newM (M := fun k_ => (w.heap.size ≤ k_)) ho67 (below_size (by repeat (first | (with_reducible first | exact HB.out | apply below_alloc | apply pw_below_drewN | apply below_drew1 | refine below_set ?_ GE101.out) | exact HB.out))) (fun k_ h_ => h_)) (below_size (by repeat (first | (with_reducible first | exact HB.out | apply below_alloc | apply pw_below_drewN | apply below_drew1 | refine below_set ?_ GE101.out) | exact HB.out))))
                    have n6_ := Aside0.mk (blk_below (g := gb101) (o := .cells #[.string a1_0, .string a1_1, .string a1_2] 47 (0, 0)) (by (with_reducible repeat (first | refine blk_drewN ?_ _ | refine blk_drew ?_ | refine blk_alloc ?_ _)); exact BK101.out) hb)
                    have n7_ := Aside0.mk (below_step (by repeat (first | (with_reducible first | exact HB.out | apply below_alloc | apply pw_below_drewN | apply below_drew1 | refine below_set ?_ GE101.out) | exact HB.out)) hb)
                    clear HO_2
                    clear HO_3
                    clear HO_4
                    clear HO_5
                    clear HO_6
                    clear BK101
                    clear HB
                    have HO_2 := n0_
                    have HO_3 := n1_
                    have HO_4 := n2_
                    have HO_5 := n3_
                    have HO_6 := n4_
                    have HO119 := n5_
                    have BK101 := n6_
                    have HB := n7_
                    clear n0_ n1_ n2_ n3_ n4_ n5_ n6_ n7_
                    clear hb ho67
                    refine hK.out _ _ ⟨(blk_cell BK101.out 0).trans rfl, (blk_cell BK101.out 1).trans rfl, (blk_cell BK101.out 2).trans rfl⟩ (fun hHeld => ?_)
                    clear hK K
                    refine norm_ (a' := ?_) ?_ ?_
                    rotate_left
                    · show Act.put _ (some 89) _ = _
                      simp only [Act.put, List.setIfInBounds_toArray, List.set_cons_zero, List.set_cons_succ, i64_w, i32_w]
                      rfl
                    refine one_ (i := 2) (N := some 91) #[true, true, true, true, true, true, true, true, false, false, true, false, false] rfl rfl (one_of HT_.out (by kernel_rfl)) (by decide) (fun K hK => ?_)
                    refine Kd.R_append_rows_step Kd.string (w0 := w) w.heap.size (by rfl) (.tmp 89) (.tmp 90) 24 9 (.string ⟨#[]⟩) 16 rfl Try.underlying24 info9 rfl (by decide) (by omega) v118 y117 l5 _ _ _ (fun k_ => (w.heap.size ≤ k_)) (fun _ => False) rfl rfl ?aO ?aR (fun _ _ h => h) (fun _ h => h.elim) ?aF ?aB ?aS ?aL ?_
                    (case aR => repeat (first | exact (Kd.V_reads' HO_5.out).2.2 | (with_reducible refine Kd.C_alloc ?_ _) | (with_reducible refine Kd.C_drewN ?_ _) | (with_reducible refine Kd.C_drew ?_)))
                    (case aB => exact (by repeat (first | (with_reducible first | exact HB.out | apply below_alloc | apply pw_below_drewN | apply below_drew1 | refine below_set ?_ GE101.out) | exact HB.out)))
                    (case aF => exact (fun k_ hk => (Nat.le_trans (below_size (by repeat (first | (with_reducible first | exact HB.out | apply below_alloc | apply pw_below_drewN | apply below_drew1 | refine below_set ?_ GE101.out) | exact HB.out))) hk)))
                    (case aO => exact (by (with_reducible repeat (first | apply Kd.R_alloc | apply Kd.R_drewN | apply Kd.R_drew)); exact Kd.R_mono HO119.out (fun _ hk => hk.1)))
                    (case aS => exact (below_size (by repeat (first | (with_reducible first | exact HB.out | apply below_alloc | apply pw_below_drewN | apply below_drew1 | refine below_set ?_ GE101.out) | exact HB.out))))
                    (case aL => have := LMc61.out; omega)
                    intro v121 w68 ho hb hg hat
                    rw [← Ny120.out] at ho
                    have n0_ := Aside0.mk (Kd.V_afterv (ok := (fun k_ => ((P2_ k_ ∨ P3_ k_ ∨ P4_ k_ ∨ P5_ k_ ∨ P6_ k_) ∨ w.heap.size ≤ k_) ∧ k_ ≠ gb101)) (by (with_reducible repeat (first | apply Kd.V_alloc | apply Kd.V_drewN | apply Kd.V_drew)); exact HO_2.out) hg hat)
                    have n1_ := Aside0.mk (Kd.V_afterv (ok := (fun k_ => ((P2_ k_ ∨ P3_ k_ ∨ P4_ k_ ∨ P5_ k_ ∨ P6_ k_) ∨ w.heap.size ≤ k_) ∧ k_ ≠ gb101)) (by (with_reducible repeat (first | apply Kd.V_alloc | apply Kd.V_drewN | apply Kd.V_drew)); exact HO_3.out) hg hat)
                    have n2_ := Aside0.mk (Kd.V_afterv (ok := (fun k_ => ((P2_ k_ ∨ P3_ k_ ∨ P4_ k_ ∨ P5_ k_ ∨ P6_ k_) ∨ w.heap.size ≤ k_) ∧ k_ ≠ gb101)) (by (with_reducible repeat (first | apply Kd.V_alloc | apply Kd.V_drewN | apply Kd.V_drew)); exact HO_4.out) hg hat)
                    have n3_ := Aside0.mk (Kd.V_afterv (ok := (fun k_ => ((P2_ k_ ∨ P3_ k_ ∨ P4_ k_ ∨ P5_ k_ ∨ P6_ k_) ∨ w.heap.size ≤ k_) ∧ k_ ≠ gb101)) (by (with_reducible repeat (first | apply Kd.V_alloc | apply Kd.V_drewN | apply Kd.V_drew)); exact HO_5.out) hg hat)
                    have n4_ := Aside0.mk (Kd.V_afterv (ok := (fun k_ => ((P2_ k_ ∨ P3_ k_ ∨ P4_ k_ ∨ P5_ k_ ∨ P6_ k_) ∨ w.heap.size ≤ k_) ∧ k_ ≠ gb101)) (by (with_reducible repeat (first | apply Kd.V_alloc | apply Kd.V_drewN | apply Kd.V_drew)); exact HO_6.out) hg hat)
                    have n5_ := Aside0.mk (blk_grown (g := gb101) (o := .cells #[.string a1_0, .string a1_1, .string a1_2] 47 (0, 0)) (by (with_reducible repeat (first | refine blk_drewN ?_ _ | refine blk_drew ?_ | refine blk_alloc ?_ _)); exact BK101.out) hg (Kd.R_ne HO119.out BK101.out (by decide)))
                    have n6_ := Aside0.mk (hb)
                    have n7_ := Aside0.mk (ho)
                    clear HO_2
                    clear HO_3
                    clear HO_4
                    clear HO_5
                    clear HO_6
                    clear BK101
                    clear HB
                    clear HO119
                    have HO_2 := n0_
                    have HO_3 := n1_
                    have HO_4 := n2_
                    have HO_5 := n3_
                    have HO_6 := n4_
                    have BK101 := n5_
                    have HB := n6_
                    have HO122 := n7_
                    clear n0_ n1_ n2_ n3_ n4_ n5_ n6_ n7_
                    clear ho hb hg hat
                    refine hK.out _ _ ⟨(blk_cell BK101.out 0).trans rfl, (blk_cell BK101.out 1).trans rfl, (blk_cell BK101.out 2).trans rfl⟩ (fun hHeld => ?_)
                    clear hK K
                    refine norm_ (a' := ?_) ?_ ?_
                    rotate_left
                    · show Act.put _ (some 91) _ = _
                      simp only [Act.put, List.setIfInBounds_toArray, List.set_cons_zero, List.set_cons_succ, i64_w, i32_w]
                      rfl
                    refine one_ (i := 8) (N := some 97) #[true, true, true, true, true, true, true, true, true, false, true, false, false] rfl rfl (one_of HT_.out (by kernel_rfl)) (by decide) (fun K hK => ?_)
                    refine goes_ Try.func62 (by kernel_rfl) rfl #[.int .i64 t113, .agg #[.string a1_0, .string a1_1, .string a1_2], .slice A2 l2.length c2, .slice A3 l3.length c3, .slice A4 l4.length c4] (by rfl) rfl rfl (by (try simp only [List.map_toArray, List.map_cons, List.map_nil]); first | done | rfl | (simp only [List.length_drop, List.length_take]; rfl)) ?_
                    with_reducible refine (marks_Region.calls t113 a1_0 a1_1 a1_2 (fun k_ => ((((P2_ k_ ∨ P3_ k_ ∨ P4_ k_ ∨ P5_ k_ ∨ P6_ k_) ∨ w.heap.size ≤ k_) ∧ k_ ≠ gb101) ∧ some k_ ≠ (v121 : Value).ownBlock)) _ _ l2 (fun k_ => ((((P2_ k_ ∨ P3_ k_ ∨ P4_ k_ ∨ P5_ k_ ∨ P6_ k_) ∨ w.heap.size ≤ k_) ∧ k_ ≠ gb101) ∧ some k_ ≠ (v121 : Value).ownBlock)) _ _ l3 (fun k_ => ((((P2_ k_ ∨ P3_ k_ ∨ P4_ k_ ∨ P5_ k_ ∨ P6_ k_) ∨ w.heap.size ≤ k_) ∧ k_ ≠ gb101) ∧ some k_ ≠ (v121 : Value).ownBlock)) _ _ l4 t123 _ ?side1 ?side2 ?side3 A62.out).mono ?_
                    (case side1 => exact HO_2.out)
                    (case side2 => exact HO_3.out)
                    (case side3 => exact HO_4.out)
                    rintro e w69 ⟨v124, rfl, ho0, hb⟩
                    refine ⟨_, rfl, ?_⟩
                    have n0_ := Aside0.mk (Kd.V_elder' (by (with_reducible repeat (first | apply Kd.V_alloc | apply Kd.V_drewN | apply Kd.V_drew)); exact HO_2.out) (Kd.R_base ho0) hb)
                    have n1_ := Aside0.mk (Kd.V_elder' (by (with_reducible repeat (first | apply Kd.V_alloc | apply Kd.V_drewN | apply Kd.V_drew)); exact HO_3.out) (Kd.R_base ho0) hb)
                    have n2_ := Aside0.mk (Kd.V_elder' (by (with_reducible repeat (first | apply Kd.V_alloc | apply Kd.V_drewN | apply Kd.V_drew)); exact HO_4.out) (Kd.R_base ho0) hb)
                    have n3_ := Aside0.mk (Kd.V_elder' (by (with_reducible repeat (first | apply Kd.V_alloc | apply Kd.V_drewN | apply Kd.V_drew)); exact HO_5.out) (Kd.R_base ho0) hb)
                    have n4_ := Aside0.mk (Kd.V_elder' (by (with_reducible repeat (first | apply Kd.V_alloc | apply Kd.V_drewN | apply Kd.V_drew)); exact HO_6.out) (Kd.R_base ho0) hb)
                    have n5_ := Aside0.mk (Kd.R_elder' (by (with_reducible repeat (first | apply Kd.R_alloc | apply Kd.R_drewN | apply Kd.R_drew)); exact HO122.out) (Kd.R_base ho0) hb)
                    have n6_ := Aside0.mk (Kd.R_lower (Kd.R_new' (Kd.R_newM (M := fun k_ => (w.heap.size ≤ k_)) (Kd.R_mono (ok' := fun k_ => True) ho0 (fun _ hk_ => trivial)) (below_size (by repeat (first | (with_reducible first | exact HB.out | apply below_alloc | apply pw_below_drewN | apply below_drew1 | refine below_set ?_ GE101.out) | exact HB.out))) (fun k_ h_ => h_)) (Kd.R_lt (by (with_reducible repeat (first | apply Kd.R_alloc | apply Kd.R_drewN | apply Kd.R_drew)); exact HO122.out))) (below_size (by repeat (first | (with_reducible first | exact HB.out | apply below_alloc | apply pw_below_drewN | apply below_drew1 | refine below_set ?_ GE101.out) | exact HB.out))))
                    have n7_ := Aside0.mk (blk_below (g := gb101) (o := .cells #[.string a1_0, .string a1_1, .string a1_2] 47 (0, 0)) (by (with_reducible repeat (first | refine blk_drewN ?_ _ | refine blk_drew ?_ | refine blk_alloc ?_ _)); exact BK101.out) hb)
                    have n8_ := Aside0.mk (below_step (by repeat (first | (with_reducible first | exact HB.out | apply below_alloc | apply pw_below_drewN | apply below_drew1 | refine below_set ?_ GE101.out) | exact HB.out)) hb)
                    clear HO_2
                    clear HO_3
                    clear HO_4
                    clear HO_5
                    clear HO_6
                    clear HO122
                    clear BK101
                    clear HB
                    have HO_2 := n0_
                    have HO_3 := n1_
                    have HO_4 := n2_
                    have HO_5 := n3_
                    have HO_6 := n4_
                    have HO122 := n5_
                    have HO125 := n6_
                    have BK101 := n7_
                    have HB := n8_
                    clear n0_ n1_ n2_ n3_ n4_ n5_ n6_ n7_ n8_
                    (try clear hb)
                    (try clear hb2)
                    (try clear hk)
                    (try clear hi)
                    (try clear ho0)
                    obtain ⟨Ao71, co71, eo71⟩ := Kd.R_slice HO125.out
                    (first | subst eo71 | (injection eo71 with f1_ f2_ f3_; have f4_ := f1_.symm; have f5_ := f3_.symm; clear f1_ f2_ f3_; subst f4_; subst f5_))
                    refine hK.out _ _ ⟨(blk_cell BK101.out 0).trans rfl, (blk_cell BK101.out 1).trans rfl, (blk_cell BK101.out 2).trans rfl⟩ (fun hHeld => ?_)
                    clear hK K
                    refine norm_ (a' := ?_) ?_ ?_
                    rotate_left
                    · show Act.put _ (some 97) _ = _
                      simp only [Act.put, List.setIfInBounds_toArray, List.set_cons_zero, List.set_cons_succ, i64_w, i32_w]
                      rfl
                    refine one_ (i := 9) (N := some 98) #[true, true, true, true, true, true, true, true, true, true, true, false, false] rfl rfl (one_of HT_.out (by kernel_rfl)) (by decide) (fun K hK => ?_)
                    refine Kd.R_append_rows_step Kd.string (w0 := w) w.heap.size (by rfl) (.tmp 91) (.tmp 97) 24 9 (.string ⟨#[]⟩) 16 rfl Try.underlying24 info9 rfl (by decide) (by omega) v121 y120 t123 _ _ _ (fun k_ => (w.heap.size ≤ k_) ∧ some k_ ≠ (.slice Ao71 t123.length co71 : Value).ownBlock) (fun _ => False) rfl rfl ?aO ?aR (fun _ _ h => h) (fun _ h => h.elim) ?aF ?aB ?aS ?aL ?_
                    (case aR => repeat (first | exact (Kd.R_reads' HO125.out).2.2 | (with_reducible refine Kd.C_alloc ?_ _) | (with_reducible refine Kd.C_drewN ?_ _) | (with_reducible refine Kd.C_drew ?_)))
                    (case aB => exact (by repeat (first | (with_reducible first | exact HB.out | apply below_alloc | apply pw_below_drewN | apply below_drew1 | refine below_set ?_ GE101.out) | exact HB.out)))
                    (case aF => exact (fun k_ hk => ⟨(Nat.le_trans (below_size (by repeat (first | (with_reducible first | exact HB.out | apply below_alloc | apply pw_below_drewN | apply below_drew1 | refine below_set ?_ GE101.out) | exact HB.out))) hk), Kd.fresh' (Kd.R_lt (by (with_reducible repeat (first | apply Kd.R_alloc | apply Kd.R_drewN | apply Kd.R_drew)); exact HO125.out)) k_ hk⟩))
                    (case aO => exact (by (with_reducible repeat (first | apply Kd.R_alloc | apply Kd.R_drewN | apply Kd.R_drew)); exact HO122.out))
                    (case aS => exact (below_size (by repeat (first | (with_reducible first | exact HB.out | apply below_alloc | apply pw_below_drewN | apply below_drew1 | refine below_set ?_ GE101.out) | exact HB.out))))
                    (case aL => have := LMc63.out; omega)
                    intro v127 w70 ho hb hg hat
                    rw [← Ny126.out] at ho
                    have n0_ := Aside0.mk (Kd.V_afterv (ok := (fun k_ => ((P2_ k_ ∨ P3_ k_ ∨ P4_ k_ ∨ P5_ k_ ∨ P6_ k_) ∨ w.heap.size ≤ k_) ∧ some k_ ≠ (.slice Ao71 t123.length co71 : Value).ownBlock ∧ k_ ≠ gb101)) (by (with_reducible repeat (first | apply Kd.V_alloc | apply Kd.V_drewN | apply Kd.V_drew)); exact Kd.V_mono HO_2.out (fun _ hk => ⟨⟨hk.1.1.1, ⟨hk.2, hk.1.1.2⟩⟩, hk.1.2⟩)) hg hat)
                    have n1_ := Aside0.mk (Kd.V_afterv (ok := (fun k_ => ((P2_ k_ ∨ P3_ k_ ∨ P4_ k_ ∨ P5_ k_ ∨ P6_ k_) ∨ w.heap.size ≤ k_) ∧ some k_ ≠ (.slice Ao71 t123.length co71 : Value).ownBlock ∧ k_ ≠ gb101)) (by (with_reducible repeat (first | apply Kd.V_alloc | apply Kd.V_drewN | apply Kd.V_drew)); exact Kd.V_mono HO_3.out (fun _ hk => ⟨⟨hk.1.1.1, ⟨hk.2, hk.1.1.2⟩⟩, hk.1.2⟩)) hg hat)
                    have n2_ := Aside0.mk (Kd.V_afterv (ok := (fun k_ => ((P2_ k_ ∨ P3_ k_ ∨ P4_ k_ ∨ P5_ k_ ∨ P6_ k_) ∨ w.heap.size ≤ k_) ∧ some k_ ≠ (.slice Ao71 t123.length co71 : Value).ownBlock ∧ k_ ≠ gb101)) (by (with_reducible repeat (first | apply Kd.V_alloc | apply Kd.V_drewN | apply Kd.V_drew)); exact Kd.V_mono HO_4.out (fun _ hk => ⟨⟨hk.1.1.1, ⟨hk.2, hk.1.1.2⟩⟩, hk.1.2⟩)) hg hat)
                    have n3_ := Aside0.mk (Kd.V_afterv (ok := (fun k_ => ((P2_ k_ ∨ P3_ k_ ∨ P4_ k_ ∨ P5_ k_ ∨ P6_ k_) ∨ w.heap.size ≤ k_) ∧ some k_ ≠ (.slice Ao71 t123.length co71 : Value).ownBlock ∧ k_ ≠ gb101)) (by (with_reducible repeat (first | apply Kd.V_alloc | apply Kd.V_drewN | apply Kd.V_drew)); exact Kd.V_mono HO_5.out (fun _ hk => ⟨⟨hk.1.1.1, ⟨hk.2, hk.1.1.2⟩⟩, hk.1.2⟩)) hg hat)
                    have n4_ := Aside0.mk (Kd.V_afterv (ok := (fun k_ => ((P2_ k_ ∨ P3_ k_ ∨ P4_ k_ ∨ P5_ k_ ∨ P6_ k_) ∨ w.heap.size ≤ k_) ∧ some k_ ≠ (.slice Ao71 t123.length co71 : Value).ownBlock ∧ k_ ≠ gb101)) (by (with_reducible repeat (first | apply Kd.V_alloc | apply Kd.V_drewN | apply Kd.V_drew)); exact Kd.V_mono HO_6.out (fun _ hk => ⟨⟨hk.1.1.1, ⟨hk.2, hk.1.1.2⟩⟩, hk.1.2⟩)) hg hat)
                    have n5_ := Aside0.mk (blk_grown (g := gb101) (o := .cells #[.string a1_0, .string a1_1, .string a1_2] 47 (0, 0)) (by (with_reducible repeat (first | refine blk_drewN ?_ _ | refine blk_drew ?_ | refine blk_alloc ?_ _)); exact BK101.out) hg (Kd.R_ne HO122.out BK101.out (by decide)))
                    have n6_ := Aside0.mk (Kd.R_after (ok := (fun k_ => (w.heap.size ≤ k_))) (by (with_reducible repeat (first | apply Kd.R_alloc | apply Kd.R_drewN | apply Kd.R_drew)); exact Kd.R_mono HO125.out (fun _ hk => ⟨hk.1.1, hk.2⟩)) hg hat)
                    have n7_ := Aside0.mk (hb)
                    have n8_ := Aside0.mk (ho)
                    clear HO_2
                    clear HO_3
                    clear HO_4
                    clear HO_5
                    clear HO_6
                    clear BK101
                    clear HO125
                    clear HB
                    clear HO122
                    have HO_2 := n0_
                    have HO_3 := n1_
                    have HO_4 := n2_
                    have HO_5 := n3_
                    have HO_6 := n4_
                    have BK101 := n5_
                    have HO125 := n6_
                    have HB := n7_
                    have HO128 := n8_
                    clear n0_ n1_ n2_ n3_ n4_ n5_ n6_ n7_ n8_
                    clear ho hb hg hat
                    refine hK.out _ _ ⟨(blk_cell BK101.out 0).trans rfl, (blk_cell BK101.out 1).trans rfl, (blk_cell BK101.out 2).trans rfl⟩ (fun hHeld => ?_)
                    clear hK K
                    refine norm_ (a' := ?_) ?_ ?_
                    rotate_left
                    · show Act.put _ (some 98) _ = _
                      simp only [Act.put, List.setIfInBounds_toArray, List.set_cons_zero, List.set_cons_succ, i64_w, i32_w]
                      rfl
                    refine one_ (i := 11) (N := some 100) #[true, true, true, true, true, true, true, true, true, true, true, true, false] rfl rfl (one_of HT_.out (by kernel_rfl)) (by decide) (fun K hK => ?_)
                    refine Kd.R_append_rows_step Kd.string (w0 := w) w.heap.size (by rfl) (.tmp 98) (.tmp 99) 24 9 (.string ⟨#[]⟩) 16 rfl Try.underlying24 info9 rfl (by decide) (by omega) v127 y126 l6 _ _ _ (fun k_ => (w.heap.size ≤ k_) ∧ some k_ ≠ (.slice Ao71 t123.length co71 : Value).ownBlock) (fun _ => False) rfl rfl ?aO ?aR (fun _ _ h => h) (fun _ h => h.elim) ?aF ?aB ?aS ?aL ?_
                    (case aR => repeat (first | exact (Kd.V_reads' HO_6.out).2.2 | (with_reducible refine Kd.C_alloc ?_ _) | (with_reducible refine Kd.C_drewN ?_ _) | (with_reducible refine Kd.C_drew ?_)))
                    (case aB => exact (by repeat (first | (with_reducible first | exact HB.out | apply below_alloc | apply pw_below_drewN | apply below_drew1 | refine below_set ?_ GE101.out) | exact HB.out)))
                    (case aF => exact (fun k_ hk => ⟨(Nat.le_trans (below_size (by repeat (first | (with_reducible first | exact HB.out | apply below_alloc | apply pw_below_drewN | apply below_drew1 | refine below_set ?_ GE101.out) | exact HB.out))) hk), Kd.fresh' (Kd.R_lt (by (with_reducible repeat (first | apply Kd.R_alloc | apply Kd.R_drewN | apply Kd.R_drew)); exact HO125.out)) k_ hk⟩))
                    (case aO => exact (by (with_reducible repeat (first | apply Kd.R_alloc | apply Kd.R_drewN | apply Kd.R_drew)); exact HO128.out))
                    (case aS => exact (below_size (by repeat (first | (with_reducible first | exact HB.out | apply below_alloc | apply pw_below_drewN | apply below_drew1 | refine below_set ?_ GE101.out) | exact HB.out))))
                    (case aL => have := LMc64.out; omega)
                    intro v130 w72 ho hb hg hat
                    rw [← Ny129.out] at ho
                    have n0_ := Aside0.mk (Kd.V_afterv (ok := (fun k_ => ((P2_ k_ ∨ P3_ k_ ∨ P4_ k_ ∨ P5_ k_ ∨ P6_ k_) ∨ w.heap.size ≤ k_) ∧ some k_ ≠ (.slice Ao71 t123.length co71 : Value).ownBlock ∧ k_ ≠ gb101)) (by (with_reducible repeat (first | apply Kd.V_alloc | apply Kd.V_drewN | apply Kd.V_drew)); exact HO_2.out) hg hat)
                    have n1_ := Aside0.mk (Kd.V_afterv (ok := (fun k_ => ((P2_ k_ ∨ P3_ k_ ∨ P4_ k_ ∨ P5_ k_ ∨ P6_ k_) ∨ w.heap.size ≤ k_) ∧ some k_ ≠ (.slice Ao71 t123.length co71 : Value).ownBlock ∧ k_ ≠ gb101)) (by (with_reducible repeat (first | apply Kd.V_alloc | apply Kd.V_drewN | apply Kd.V_drew)); exact HO_3.out) hg hat)
                    have n2_ := Aside0.mk (Kd.V_afterv (ok := (fun k_ => ((P2_ k_ ∨ P3_ k_ ∨ P4_ k_ ∨ P5_ k_ ∨ P6_ k_) ∨ w.heap.size ≤ k_) ∧ some k_ ≠ (.slice Ao71 t123.length co71 : Value).ownBlock ∧ k_ ≠ gb101)) (by (with_reducible repeat (first | apply Kd.V_alloc | apply Kd.V_drewN | apply Kd.V_drew)); exact HO_4.out) hg hat)
                    have n3_ := Aside0.mk (Kd.V_afterv (ok := (fun k_ => ((P2_ k_ ∨ P3_ k_ ∨ P4_ k_ ∨ P5_ k_ ∨ P6_ k_) ∨ w.heap.size ≤ k_) ∧ some k_ ≠ (.slice Ao71 t123.length co71 : Value).ownBlock ∧ k_ ≠ gb101)) (by (with_reducible repeat (first | apply Kd.V_alloc | apply Kd.V_drewN | apply Kd.V_drew)); exact HO_5.out) hg hat)
                    have n4_ := Aside0.mk (Kd.V_afterv (ok := (fun k_ => ((P2_ k_ ∨ P3_ k_ ∨ P4_ k_ ∨ P5_ k_ ∨ P6_ k_) ∨ w.heap.size ≤ k_) ∧ some k_ ≠ (.slice Ao71 t123.length co71 : Value).ownBlock ∧ k_ ≠ gb101)) (by (with_reducible repeat (first | apply Kd.V_alloc | apply Kd.V_drewN | apply Kd.V_drew)); exact HO_6.out) hg hat)
                    have n5_ := Aside0.mk (blk_grown (g := gb101) (o := .cells #[.string a1_0, .string a1_1, .string a1_2] 47 (0, 0)) (by (with_reducible repeat (first | refine blk_drewN ?_ _ | refine blk_drew ?_ | refine blk_alloc ?_ _)); exact BK101.out) hg (Kd.R_ne HO128.out BK101.out (by decide)))
                    have n6_ := Aside0.mk (Kd.R_after (ok := (fun k_ => (w.heap.size ≤ k_))) (by (with_reducible repeat (first | apply Kd.R_alloc | apply Kd.R_drewN | apply Kd.R_drew)); exact HO125.out) hg hat)
                    have n7_ := Aside0.mk (hb)
                    have n8_ := Aside0.mk (ho)
                    clear HO_2
                    clear HO_3
                    clear HO_4
                    clear HO_5
                    clear HO_6
                    clear BK101
                    clear HO125
                    clear HB
                    clear HO128
                    have HO_2 := n0_
                    have HO_3 := n1_
                    have HO_4 := n2_
                    have HO_5 := n3_
                    have HO_6 := n4_
                    have BK101 := n5_
                    have HO125 := n6_
                    have HB := n7_
                    have HO131 := n8_
                    clear n0_ n1_ n2_ n3_ n4_ n5_ n6_ n7_ n8_
                    clear ho hb hg hat
                    refine hK.out _ _ ⟨(blk_cell BK101.out 0).trans rfl, (blk_cell BK101.out 1).trans rfl, (blk_cell BK101.out 2).trans rfl⟩ (fun hHeld => ?_)
                    clear hK K
                    refine norm_ (a' := ?_) ?_ ?_
                    rotate_left
                    · show Act.put _ (some 100) _ = _
                      simp only [Act.put, List.setIfInBounds_toArray, List.set_cons_zero, List.set_cons_succ, i64_w, i32_w]
                      rfl
                    refine pure_ (i := 12) (N := some 16) (v := ?_) (a' := ?_) #[true, true, true, true, true, true, true, true, true, true, true, true, true] rfl rfl (any_of HT_.out (by kernel_rfl)) (fun _ _ _ h => h) (Or.inl ⟨by rfl, ?_⟩) ?_ ?_
                    rotate_left
                    · intro w'
                      go_simp
                      with_reducible rfl
                    rotate_left
                    · simp only [Act.put, List.setIfInBounds_toArray, List.set_cons_zero, List.set_cons_succ, i64_w, i32_w]
                      rfl
                    refine done_ (done_of HT_.out (by kernel_rfl)) ?_
                    try go_wp2_with (first | ((with_reducible refine gate_dst (N := 104) rfl ?_); refine Kd.N_lit (Kd.slice 9 Kd.string) _ 24 ?hg (N' := 104) ?hd (xs := ([l2, l3, l4] : List (List ByteArray))) (inner := [.slice A2 l2.length c2, .slice A3 l3.length c3, .slice A4 l4.length c4]) (ok := (fun k_ => ((P2_ k_ ∨ P3_ k_ ∨ P4_ k_ ∨ P5_ k_ ∨ P6_ k_) ∨ w.heap.size ≤ k_) ∧ some k_ ≠ (.slice Ao71 t123.length co71 : Value).ownBlock ∧ some k_ ≠ (v130 : Value).ownBlock ∧ k_ ≠ gb101)) (okp := (fun k_ => ((P2_ k_ ∨ P3_ k_ ∨ P4_ k_ ∨ P5_ k_ ∨ P6_ k_) ∨ w.heap.size ≤ k_) ∧ some k_ ≠ (.slice Ao71 t123.length co71 : Value).ownBlock ∧ some k_ ≠ (v130 : Value).ownBlock ∧ k_ ≠ gb101)) ?hr ?hp (fun _ hk => hk) ((show ∀ k_, w72.heap.size ≤ k_ → (fun k_ => ((P2_ k_ ∨ P3_ k_ ∨ P4_ k_ ∨ P5_ k_ ∨ P6_ k_) ∨ w.heap.size ≤ k_) ∧ some k_ ≠ (.slice Ao71 t123.length co71 : Value).ownBlock ∧ some k_ ≠ (v130 : Value).ownBlock ∧ k_ ≠ gb101) k_ from fun k_ hk => ⟨(.inr (Nat.le_trans (below_size (by repeat (first | (with_reducible first | exact HB.out | apply below_alloc | apply pw_below_drewN | apply below_drew1 | refine below_set ?_ GE101.out) | exact HB.out))) hk)), Kd.fresh' (Kd.R_lt (by (with_reducible repeat (first | apply Kd.R_alloc | apply Kd.R_drewN | apply Kd.R_drew)); exact HO125.out)) k_ hk, Kd.fresh' (Kd.R_lt (by (with_reducible repeat (first | apply Kd.R_alloc | apply Kd.R_drewN | apply Kd.R_drew)); exact HO131.out)) k_ hk, Kd.freshB (g := gb101) (o := .cells #[.string a1_0, .string a1_1, .string a1_2] 47 (0, 0)) (by (with_reducible repeat (first | refine blk_drewN ?_ _ | refine blk_drew ?_ | refine blk_alloc ?_ _)); exact BK101.out) k_ hk⟩) _ (Nat.le_refl _)) (Below.refl _ _) (Nat.le_refl _) (by simp) ?_; (case hd => rfl); (case hg => rfl); (case hr => first | (go_simp; done) | (go_simp; rfl)); (case hp => exact (Reps.one (show Kd.FK (Kd.slice 9 Kd.string) _ _ l2 [.slice A2 l2.length c2] from (Kd.FK_slice_mk (Kd.V_reads' (Kd.V_mono (ok' := (fun k_ => ((P2_ k_ ∨ P3_ k_ ∨ P4_ k_ ∨ P5_ k_ ∨ P6_ k_) ∨ w.heap.size ≤ k_) ∧ some k_ ≠ (.slice Ao71 t123.length co71 : Value).ownBlock ∧ some k_ ≠ (v130 : Value).ownBlock ∧ k_ ≠ gb101)) (HO_2.out) (fun k_ hk => ⟨hk.1.1, ⟨hk.1.2.1, ⟨hk.2, hk.1.2.2⟩⟩⟩))).2.1 (Kd.V_F (Kd.V_mono (ok' := (fun k_ => ((P2_ k_ ∨ P3_ k_ ∨ P4_ k_ ∨ P5_ k_ ∨ P6_ k_) ∨ w.heap.size ≤ k_) ∧ some k_ ≠ (.slice Ao71 t123.length co71 : Value).ownBlock ∧ some k_ ≠ (v130 : Value).ownBlock ∧ k_ ≠ gb101)) (HO_2.out) (fun k_ hk => ⟨hk.1.1, ⟨hk.1.2.1, ⟨hk.2, hk.1.2.2⟩⟩⟩))))) (Reps.one (show Kd.FK (Kd.slice 9 Kd.string) _ _ l3 [.slice A3 l3.length c3] from (Kd.FK_slice_mk (Kd.V_reads' (Kd.V_mono (ok' := (fun k_ => ((P2_ k_ ∨ P3_ k_ ∨ P4_ k_ ∨ P5_ k_ ∨ P6_ k_) ∨ w.heap.size ≤ k_) ∧ some k_ ≠ (.slice Ao71 t123.length co71 : Value).ownBlock ∧ some k_ ≠ (v130 : Value).ownBlock ∧ k_ ≠ gb101)) (HO_3.out) (fun k_ hk => ⟨hk.1.1, ⟨hk.1.2.1, ⟨hk.2, hk.1.2.2⟩⟩⟩))).2.1 (Kd.V_F (Kd.V_mono (ok' := (fun k_ => ((P2_ k_ ∨ P3_ k_ ∨ P4_ k_ ∨ P5_ k_ ∨ P6_ k_) ∨ w.heap.size ≤ k_) ∧ some k_ ≠ (.slice Ao71 t123.length co71 : Value).ownBlock ∧ some k_ ≠ (v130 : Value).ownBlock ∧ k_ ≠ gb101)) (HO_3.out) (fun k_ hk => ⟨hk.1.1, ⟨hk.1.2.1, ⟨hk.2, hk.1.2.2⟩⟩⟩))))) (Reps.one (show Kd.FK (Kd.slice 9 Kd.string) _ _ l4 [.slice A4 l4.length c4] from (Kd.FK_slice_mk (Kd.V_reads' (Kd.V_mono (ok' := (fun k_ => ((P2_ k_ ∨ P3_ k_ ∨ P4_ k_ ∨ P5_ k_ ∨ P6_ k_) ∨ w.heap.size ≤ k_) ∧ some k_ ≠ (.slice Ao71 t123.length co71 : Value).ownBlock ∧ some k_ ≠ (v130 : Value).ownBlock ∧ k_ ≠ gb101)) (HO_4.out) (fun k_ hk => ⟨hk.1.1, ⟨hk.1.2.1, ⟨hk.2, hk.1.2.2⟩⟩⟩))).2.1 (Kd.V_F (Kd.V_mono (ok' := (fun k_ => ((P2_ k_ ∨ P3_ k_ ∨ P4_ k_ ∨ P5_ k_ ∨ P6_ k_) ∨ w.heap.size ≤ k_) ∧ some k_ ≠ (.slice Ao71 t123.length co71 : Value).ownBlock ∧ some k_ ≠ (v130 : Value).ownBlock ∧ k_ ≠ gb101)) (HO_4.out) (fun k_ hk => ⟨hk.1.1, ⟨hk.1.2.1, ⟨hk.2, hk.1.2.2⟩⟩⟩))))) (Reps.none _ _))))); intro v133 w73 ho74 hb hg_ hnew_; clear hg_ hnew_; (first | rw [← Ny132.out] at ho74 | (simp only [Int.reduceToNat] at ho74; rw [← Ny132.out] at ho74)); have n0_ := Aside0.mk (Kd.V_elder' (by (with_reducible repeat (first | apply Kd.V_alloc | apply Kd.V_drewN | apply Kd.V_drew)); exact HO_2.out) (Kd.N_base ho74) hb); have n1_ := Aside0.mk (Kd.V_elder' (by (with_reducible repeat (first | apply Kd.V_alloc | apply Kd.V_drewN | apply Kd.V_drew)); exact HO_3.out) (Kd.N_base ho74) hb); have n2_ := Aside0.mk (Kd.V_elder' (by (with_reducible repeat (first | apply Kd.V_alloc | apply Kd.V_drewN | apply Kd.V_drew)); exact HO_4.out) (Kd.N_base ho74) hb); have n3_ := Aside0.mk (Kd.V_elder' (by (with_reducible repeat (first | apply Kd.V_alloc | apply Kd.V_drewN | apply Kd.V_drew)); exact HO_5.out) (Kd.N_base ho74) hb); have n4_ := Aside0.mk (Kd.V_elder' (by (with_reducible repeat (first | apply Kd.V_alloc | apply Kd.V_drewN | apply Kd.V_drew)); exact HO_6.out) (Kd.N_base ho74) hb); have n5_ := Aside0.mk (Kd.R_below (by (with_reducible repeat (first | apply Kd.R_alloc | apply Kd.R_drewN | apply Kd.R_drew)); exact HO125.out) hb); have n6_ := Aside0.mk (Kd.R_below (by (with_reducible repeat (first | apply Kd.R_alloc | apply Kd.R_drewN | apply Kd.R_drew)); exact HO131.out) hb); have n7_ := Aside0.mk (Kd.N_lower ho74 (below_size (by repeat (first | (with_reducible first | exact HB.out | apply below_alloc | apply pw_below_drewN | apply below_drew1 | refine below_set ?_ GE101.out) | exact HB.out)))); have n8_ := Aside0.mk (blk_below (g := gb101) (o := .cells #[.string a1_0, .string a1_1, .string a1_2] 47 (0, 0)) (by (with_reducible repeat (first | refine blk_drewN ?_ _ | refine blk_drew ?_ | refine blk_alloc ?_ _)); exact BK101.out) hb); have n9_ := Aside0.mk (below_step (by repeat (first | (with_reducible first | exact HB.out | apply below_alloc | apply pw_below_drewN | apply below_drew1 | refine below_set ?_ GE101.out) | exact HB.out)) hb); clear HO_2; clear HO_3; clear HO_4; clear HO_5; clear HO_6; clear HO125; clear HO131; clear BK101; clear HB; have HO_2 := n0_; have HO_3 := n1_; have HO_4 := n2_; have HO_5 := n3_; have HO_6 := n4_; have HO125 := n5_; have HO131 := n6_; have HO134 := n7_; have BK101 := n8_; have HB := n9_; clear n0_ n1_ n2_ n3_ n4_ n5_ n6_ n7_ n8_ n9_; clear hb ho74; obtain ⟨Ao75, co75, eo75⟩ := Kd.N_slice HO134.out; subst eo75))
                    go_loopg [106] kj35 (fun kq v106 w' => ∃ (x106_3 : Int), v106 = .int .i64 x106_3 ∧ Aside0 (emendationlaw06_MarksBack.l0 kq l5 l6 t113 y129 y132 (y132.length : Int) x106_3 = some r) ∧ Aside0 (kq ≤ kj35) ∧ Aside0 (Kd.V Kd.string 9 w' w.heap.size (fun k_ => ((P2_ k_ ∨ P3_ k_ ∨ P4_ k_ ∨ P5_ k_ ∨ P6_ k_) ∨ w.heap.size ≤ k_) ∧ some k_ ≠ (v130 : Value).ownBlock ∧ some k_ ≠ ((.slice Ao75 y132.length co75) : Value).ownBlock ∧ k_ ≠ gb101) (.slice A5 l5.length c5) l5) ∧ Aside0 (Kd.V Kd.string 9 w' w.heap.size (fun k_ => ((P2_ k_ ∨ P3_ k_ ∨ P4_ k_ ∨ P5_ k_ ∨ P6_ k_) ∨ w.heap.size ≤ k_) ∧ some k_ ≠ (v130 : Value).ownBlock ∧ some k_ ≠ ((.slice Ao75 y132.length co75) : Value).ownBlock ∧ k_ ≠ gb101) (.slice A6 l6.length c6) l6) ∧ Aside0 (Kd.R Kd.string 9 w' w.heap.size (fun k_ => (w.heap.size ≤ k_)) v130 y129) ∧ Aside0 (Kd.N (Kd.slice 9 Kd.string) 24 w' w.heap.size (fun k_ => ((P2_ k_ ∨ P3_ k_ ∨ P4_ k_ ∨ P5_ k_ ∨ P6_ k_) ∨ w.heap.size ≤ k_) ∧ some k_ ≠ (v130 : Value).ownBlock ∧ k_ ≠ gb101) (.slice Ao75 y132.length co75) y132) ∧ Aside0 (w'.heap[gb101]? = some (.cells #[.string a1_0, .string a1_1, .string a1_2] 47 (0, 0))) ∧ Aside0 (Below w.heap.size w w'))
                    case atStart => exact ⟨(0), (by first | rfl | (simp; done) | (simp [*]; done)), H', ⟨Nat.le_refl _⟩, ⟨by (with_reducible repeat (first | apply Kd.V_alloc | apply Kd.V_drewN | apply Kd.V_drew)); exact Kd.V_mono HO_5.out (fun _ hk => ⟨hk.1.1.1, ⟨hk.1.2, ⟨hk.2, hk.1.1.2.2⟩⟩⟩)⟩, ⟨by (with_reducible repeat (first | apply Kd.V_alloc | apply Kd.V_drewN | apply Kd.V_drew)); exact Kd.V_mono HO_6.out (fun _ hk => ⟨hk.1.1.1, ⟨hk.1.2, ⟨hk.2, hk.1.1.2.2⟩⟩⟩)⟩, ⟨by (with_reducible repeat (first | apply Kd.R_alloc | apply Kd.R_drewN | apply Kd.R_drew)); exact Kd.R_mono HO131.out (fun _ hk => hk.1)⟩, ⟨by (with_reducible repeat (first | apply Kd.N_alloc | apply Kd.N_drewN | apply Kd.N_drew)); exact Kd.N_mono HO134.out (fun _ hk => ⟨hk.1, ⟨hk.2.2.1, hk.2.2.2⟩⟩)⟩, ⟨by (with_reducible repeat (first | refine blk_drewN ?_ _ | refine blk_drew ?_ | refine blk_alloc ?_ _)); exact BK101.out⟩, ⟨by repeat (first | (with_reducible first | exact HB.out | apply below_alloc | apply pw_below_drewN | apply below_drew1 | refine below_set ?_ GE101.out) | exact HB.out)⟩⟩
                    case round =>
                      clear H'
                      try clear c1
                      try clear c2
                      try clear p2
                      try clear c3
                      try clear c4
                      try clear c5
                      try clear c6
                      try clear c11
                      try clear c13
                      try clear c15
                      try clear c17
                      try clear c19
                      try clear c21
                      try clear c25
                      try clear c32
                      try clear c39
                      try clear c41
                      try clear c41b0
                      try clear c41b1
                      try clear c43
                      try clear c45
                      try clear c59
                      try clear c60
                      try clear c60b0
                      try clear c61
                      try clear c62
                      try clear c63
                      try clear c64
                      try clear hcz24_0
                      try clear hcz24_1
                      try clear hcz24_2
                      try clear hcz47_0
                      try clear hcz47_1
                      try clear hcz47_2
                      try clear hcz49_0
                      try clear hcz49_1
                      try clear hcz49_2
                      try clear hcz51_0
                      try clear hcz51_1
                      try clear hcz51_2
                      try clear hcz53_0
                      try clear hcz53_1
                      try clear hcz53_2
                      try clear hcz55_0
                      try clear hcz55_1
                      try clear hcz55_2
                      try clear hcz57_0
                      try clear hcz57_1
                      try clear hcz57_2
                      try clear hfz24_0
                      try clear hfz24_1
                      try clear hfz24_2
                      try clear hfz47_0
                      try clear hfz47_1
                      try clear hfz47_2
                      try clear hfz49_0
                      try clear hfz49_1
                      try clear hfz49_2
                      try clear hfz51_0
                      try clear hfz51_1
                      try clear hfz51_2
                      try clear hfz53_0
                      try clear hfz53_1
                      try clear hfz53_2
                      try clear hfz55_0
                      try clear hfz55_1
                      try clear hfz55_2
                      try clear hfz57_0
                      try clear hfz57_1
                      try clear hfz57_2
                      try clear p2
                      obtain ⟨x106_3, rfl, HA, HK3, HO_5, HO_6, HO_16, HO_104, BK101, HB⟩ := hrel
                      cases gk with
                      | zero => exact absurd HA.out (by simp [emendationlaw06_MarksBack.l0])
                      | succ k3 =>
                        have H := HA.out
                        clear HA
                        simp only [emendationlaw06_MarksBack.l0] at H
                        by_cases c76 : x106_3 < (y132.length : Int)
                        · rw [if_pos c76] at H
                          have c76b0 : decide (x106_3 < (y132.length : Int)) = true := decide_eq_true c76
                          clear c76
                          by_cases c77 : 0 ≤ x106_3
                          · rw [if_pos c77] at H
                            have c77b0 : decide (0 ≤ x106_3) = true := decide_eq_true c77
                            clear c77
                            by_cases c78 : x106_3 < (y132.length : Int)
                            · rw [if_pos c78] at H
                              have c78b0 : decide (x106_3 < (y132.length : Int)) = true := decide_eq_true c78
                              clear c78
                              replace H := Option.bind_eq_some_iff.mp H
                              obtain ⟨⟨t136, t137⟩, A790, H⟩ := H
                              replace H : ((some (([] : List ByteArray) : List ByteArray)).bind fun y140 => (if y140.length + l5.length < 8796093022208 then ((some (y140 ++ l5 : List ByteArray)).bind fun y143 => (if y143.length + (rd_L6 y132 x106_3).length < 8796093022208 then ((some (y143 ++ (rd_L6 y132 x106_3) : List ByteArray)).bind fun y146 => (if y146.length + l6.length < 8796093022208 then (if t137 = 0 then ((emendationref02_Same.f k3 t136 (y146 ++ l6)).bind fun t152 => (if t152 = true then (emendationlaw06_MarksBack.l0 k3 l5 l6 t113 y129 y132 (y132.length : Int) (wrap64 (x106_3 + 1))) else (some false))) else (some false)) else (none))) else (none))) else (none))) = some r := H
                              have A79 := Aside0.mk A790
                              clear A790
                              obtain ⟨y140, hy140⟩ : ∃ y_ : List ByteArray, y_ = (([] : List ByteArray)) := ⟨_, rfl⟩
                              replace H : (if y140.length + l5.length < 8796093022208 then ((some (y140 ++ l5 : List ByteArray)).bind fun y143 => (if y143.length + (rd_L6 y132 x106_3).length < 8796093022208 then ((some (y143 ++ (rd_L6 y132 x106_3) : List ByteArray)).bind fun y146 => (if y146.length + l6.length < 8796093022208 then (if t137 = 0 then ((emendationref02_Same.f k3 t136 (y146 ++ l6)).bind fun t152 => (if t152 = true then (emendationlaw06_MarksBack.l0 k3 l5 l6 t113 y129 y132 (y132.length : Int) (wrap64 (x106_3 + 1))) else (some false))) else (some false)) else (none))) else (none))) else (none)) = some r := by first | (rw [hy140]; with_reducible exact H) | (have H2_ := (Option.bind_some _ _).symm.trans H; rw [hy140]; with_reducible exact H2_) | (have H2_ := (Option.bind_some _ _).symm.trans H; with_reducible exact H2_) | with_reducible exact H | (rw [hy140]; exact H) | exact H
                              have Ny140 := Aside0.mk hy140
                              clear hy140
                              by_cases c80 : y140.length + l5.length < 8796093022208
                              · rw [if_pos c80] at H
                                have LMc80 := Aside0.mk c80
                                clear c80
                                obtain ⟨y143, hy143⟩ : ∃ y_ : List ByteArray, y_ = (y140 ++ l5) := ⟨_, rfl⟩
                                replace H : (if y143.length + (rd_L6 y132 x106_3).length < 8796093022208 then ((some (y143 ++ (rd_L6 y132 x106_3) : List ByteArray)).bind fun y146 => (if y146.length + l6.length < 8796093022208 then (if t137 = 0 then ((emendationref02_Same.f k3 t136 (y146 ++ l6)).bind fun t152 => (if t152 = true then (emendationlaw06_MarksBack.l0 k3 l5 l6 t113 y129 y132 (y132.length : Int) (wrap64 (x106_3 + 1))) else (some false))) else (some false)) else (none))) else (none)) = some r := by first | (rw [hy143]; with_reducible exact H) | (have H2_ := (Option.bind_some _ _).symm.trans H; rw [hy143]; with_reducible exact H2_) | (have H2_ := (Option.bind_some _ _).symm.trans H; with_reducible exact H2_) | with_reducible exact H | (rw [hy143]; exact H) | exact H
                                have Ny143 := Aside0.mk hy143
                                clear hy143
                                by_cases c81 : y143.length + (rd_L6 y132 x106_3).length < 8796093022208
                                · rw [if_pos c81] at H
                                  have LMc81 := Aside0.mk c81
                                  clear c81
                                  obtain ⟨y146, hy146⟩ : ∃ y_ : List ByteArray, y_ = (y143 ++ (rd_L6 y132 x106_3)) := ⟨_, rfl⟩
                                  replace H : (if y146.length + l6.length < 8796093022208 then (if t137 = 0 then ((emendationref02_Same.f k3 t136 (y146 ++ l6)).bind fun t152 => (if t152 = true then (emendationlaw06_MarksBack.l0 k3 l5 l6 t113 y129 y132 (y132.length : Int) (wrap64 (x106_3 + 1))) else (some false))) else (some false)) else (none)) = some r := by first | (rw [hy146]; with_reducible exact H) | (have H2_ := (Option.bind_some _ _).symm.trans H; rw [hy146]; with_reducible exact H2_) | (have H2_ := (Option.bind_some _ _).symm.trans H; with_reducible exact H2_) | with_reducible exact H | (rw [hy146]; exact H) | exact H
                                  have Ny146 := Aside0.mk hy146
                                  clear hy146
                                  by_cases c82 : y146.length + l6.length < 8796093022208
                                  · rw [if_pos c82] at H
                                    have LMc82 := Aside0.mk c82
                                    clear c82
                                    obtain ⟨y149, hy149⟩ : ∃ y_ : List ByteArray, y_ = (y146 ++ l6) := ⟨_, rfl⟩
                                    replace H : (if t137 = 0 then ((emendationref02_Same.f k3 t136 y149).bind fun t152 => (if t152 = true then (emendationlaw06_MarksBack.l0 k3 l5 l6 t113 y129 y132 (y132.length : Int) (wrap64 (x106_3 + 1))) else (some false))) else (some false)) = some r := by first | (rw [hy149]; with_reducible exact H) | (have H2_ := (Option.bind_some _ _).symm.trans H; rw [hy149]; with_reducible exact H2_) | (have H2_ := (Option.bind_some _ _).symm.trans H; with_reducible exact H2_) | with_reducible exact H | (rw [hy149]; exact H) | exact H
                                    have Ny149 := Aside0.mk hy149
                                    clear hy149
                                    by_cases c83 : t137 = 0
                                    · rw [if_pos c83] at H
                                      have c83b0 : (t137 == 0) = true := beq_iff_eq.mpr c83
                                      have c83b1 : (t137 != 0) = false := bne_eq_false_iff_eq.mpr c83
                                      clear c83
                                      replace H := Option.bind_eq_some_iff.mp H
                                      obtain ⟨t152, A840, H⟩ := H
                                      replace H : (if t152 = true then (emendationlaw06_MarksBack.l0 k3 l5 l6 t113 y129 y132 (y132.length : Int) (wrap64 (x106_3 + 1))) else (some false)) = some r := H
                                      have A84 := Aside0.mk A840
                                      clear A840
                                      by_cases c85 : t152 = true
                                      · subst c85
                                        have H1 : (emendationlaw06_MarksBack.l0 k3 l5 l6 t113 y129 y132 (y132.length : Int) (wrap64 (x106_3 + 1))) = some r := by rw [if_pos rfl] at H; exact H
                                        clear H
                                        have H := H1
                                        clear H1
                                        have H' := Aside0.mk H
                                        clear H
                                        have p135 : 0 ≤ (x106_3 : Int) := of_decide_eq_true (by first | (with_reducible assumption) | assumption)
                                        have q135 : x106_3 < (y132.length : Int) := of_decide_eq_true (by first | (with_reducible assumption) | assumption)
                                        obtain ⟨ad135, A135_0, c135_0, e135, hx135_0, hl135_0, hi135_0⟩ := at_L6 (Kd.N_reads' HO_104.out).2.2 x106_3 p135 q135
                                        cases e135
                                        obtain ⟨ce135, hce135, hMe135, hcc135⟩ := Kd.N_get HO_104.out [] x106_3 p135 (by first | exact q135 | exact of_decide_eq_true (by first | (with_reducible assumption) | assumption) | (have e_ := (Kd.N_reads' HO_104.out).1; omega))
                                        obtain ⟨ua135_0, uc135_0, rfl, ul135_0, ge135_0⟩ := Kd.FK_slice_open hMe135
                                        have hv135_0 := hcc135 0 _ rfl
                                        rw [Nat.add_zero, show ((Kd.slice 9 Kd.string)).sz = 1 from rfl, Nat.mul_one] at hv135_0
                                        replace hv135_0 := Option.some.inj (hv135_0.symm.trans hx135_0)
                                        injection hv135_0 with hva_ hvn_ hvc_
                                        rw [hva_] at ge135_0
                                        rw [hvc_] at ul135_0
                                        have HL135_0 := Aside0.mk (show Kd.V Kd.string 9 _ w.heap.size _ _ (rd_L6 y132 x106_3) from Kd.V_mk ul135_0 ge135_0)
                                        clear hva_ hvn_ hvc_ ge135_0 ul135_0
                                        clear hcc135 hce135
                                        have HR135_0 := Aside0.mk hi135_0
                                        have HC135_0 := Aside0.mk hl135_0
                                        clear hi135_0 hl135_0
                                        replace p135 := eq_true p135
                                        replace q135 := eq_true q135
                                        obtain ⟨Ao86, co86, eo86⟩ := Kd.R_slice HO_16.out
                                        subst eo86
                                        go_wp2_with (first | ((with_reducible refine gate_callee (f := 42) rfl ?_); refine goesL_ (some 116) rfl rfl Try.func42 (by kernel_rfl) rfl #[.int .i64 t113, .slice Ao86 y129.length co86, .int .i64 (wrap64 (x106_3 + 1))] rfl (by (try simp only [List.map_toArray, List.map_cons, List.map_nil]); first | done | rfl | (simp only [List.length_drop, List.length_take]; rfl)) ?_; (with_reducible refine (marks_Choose.calls k3 t113 _ _ y129 (wrap64 (x106_3 + 1)) t136 t137 _ ?side1 ?side2 A79.out).mono ?_); (case side1 => repeat (first | exact (Kd.R_reads' HO_16.out).2.2 | (with_reducible refine Kd.C_alloc ?_ _) | (with_reducible refine Kd.C_drewN ?_ _) | (with_reducible refine Kd.C_drew ?_))); (case side2 => exact (Kd.R_reads' HO_16.out).2.1); rintro e w87 ⟨v138, rfl, ho0, hb⟩; refine ⟨_, rfl, ?_⟩; have n0_ := Aside0.mk (Kd.V_elder' (by (with_reducible repeat (first | apply Kd.V_alloc | apply Kd.V_drewN | apply Kd.V_drew)); exact HO_5.out) (Kd.R_base ho0) hb); have n1_ := Aside0.mk (Kd.V_elder' (by (with_reducible repeat (first | apply Kd.V_alloc | apply Kd.V_drewN | apply Kd.V_drew)); exact HO_6.out) (Kd.R_base ho0) hb); have n2_ := Aside0.mk (Kd.R_elder' (by (with_reducible repeat (first | apply Kd.R_alloc | apply Kd.R_drewN | apply Kd.R_drew)); exact HO_16.out) (Kd.R_base ho0) hb); have n3_ := Aside0.mk (Kd.N_elder' (by (with_reducible repeat (first | apply Kd.N_alloc | apply Kd.N_drewN | apply Kd.N_drew)); exact HO_104.out) (Kd.R_base ho0) hb); have n4_ := Aside0.mk (Kd.V_elder' (by (with_reducible repeat (first | apply Kd.V_alloc | apply Kd.V_drewN | apply Kd.V_drew)); exact HL135_0.out) (Kd.R_base ho0) hb); have n5_ := Aside0.mk (Kd.R_lower (Kd.R_new' (Kd.R_newM (M := fun k_ => (w.heap.size ≤ k_)) ho0 (below_size (by repeat (first | (with_reducible first | exact HB.out | apply below_alloc | apply pw_below_drewN | apply below_drew1 | refine below_set ?_ GE101.out) | exact HB.out))) (fun k_ h_ => h_)) (Kd.R_lt (by (with_reducible repeat (first | apply Kd.R_alloc | apply Kd.R_drewN | apply Kd.R_drew)); exact HO_16.out))) (below_size (by repeat (first | (with_reducible first | exact HB.out | apply below_alloc | apply pw_below_drewN | apply below_drew1 | refine below_set ?_ GE101.out) | exact HB.out)))); have n6_ := Aside0.mk (blk_below (g := gb101) (o := .cells #[.string a1_0, .string a1_1, .string a1_2] 47 (0, 0)) (by (with_reducible repeat (first | refine blk_drewN ?_ _ | refine blk_drew ?_ | refine blk_alloc ?_ _)); exact BK101.out) hb); have n7_ := Aside0.mk (Kd.C_below (by repeat (first | (with_reducible exact HR135_0.out) | (with_reducible refine Kd.C_alloc ?_ _) | (with_reducible refine Kd.C_drewN ?_ _) | (with_reducible refine Kd.C_drew ?_) | exact HR135_0.out)) hb); have n8_ := Aside0.mk (below_step (by repeat (first | (with_reducible first | exact HB.out | apply below_alloc | apply pw_below_drewN | apply below_drew1 | refine below_set ?_ GE101.out) | exact HB.out)) hb); clear HO_5; clear HO_6; clear HO_16; clear HO_104; clear HL135_0; clear BK101; clear HR135_0; clear HB; have HO_5 := n0_; have HO_6 := n1_; have HO_16 := n2_; have HO_104 := n3_; have HL135_0 := n4_; have HO139 := n5_; have BK101 := n6_; have HR135_0 := n7_; have HB := n8_; clear n0_ n1_ n2_ n3_ n4_ n5_ n6_ n7_ n8_; (try clear hb); (try clear hb2); (try clear hk); (try clear hi); (try clear ho0)) | ((with_reducible refine gate_dst (N := 119) rfl ?_); refine Kd.R_lit Kd.string _ 9 ?hg (N := 119) ?hd (xs := ([] : List ByteArray)) (inner := []) (ok := fun _ => True) (okp := fun _ => True) ?hr ?hp (fun _ hk => hk) trivial (Below.refl _ _) (Nat.le_refl _) (by simp) ?_; (case hd => rfl); (case hg => rfl); (case hr => first | (go_simp; done) | (go_simp; rfl)); (case hp => exact (Reps.none _ _)); intro v141 w88 ho89 hb hg_ hnew_; clear hg_ hnew_; (first | rw [← Ny140.out] at ho89 | (simp only [Int.reduceToNat] at ho89; rw [← Ny140.out] at ho89)); have n0_ := Aside0.mk (Kd.V_elder' (by (with_reducible repeat (first | apply Kd.V_alloc | apply Kd.V_drewN | apply Kd.V_drew)); exact HO_5.out) (Kd.R_base ho89) hb); have n1_ := Aside0.mk (Kd.V_elder' (by (with_reducible repeat (first | apply Kd.V_alloc | apply Kd.V_drewN | apply Kd.V_drew)); exact HO_6.out) (Kd.R_base ho89) hb); have n2_ := Aside0.mk (Kd.R_elder' (by (with_reducible repeat (first | apply Kd.R_alloc | apply Kd.R_drewN | apply Kd.R_drew)); exact HO_16.out) (Kd.R_base ho89) hb); have n3_ := Aside0.mk (Kd.N_elder' (by (with_reducible repeat (first | apply Kd.N_alloc | apply Kd.N_drewN | apply Kd.N_drew)); exact HO_104.out) (Kd.R_base ho89) hb); have n4_ := Aside0.mk (Kd.V_elder' (by (with_reducible repeat (first | apply Kd.V_alloc | apply Kd.V_drewN | apply Kd.V_drew)); exact HL135_0.out) (Kd.R_base ho89) hb); have n5_ := Aside0.mk (Kd.R_elder' (by (with_reducible repeat (first | apply Kd.R_alloc | apply Kd.R_drewN | apply Kd.R_drew)); exact HO139.out) (Kd.R_base ho89) hb); have n6_ := Aside0.mk (Kd.R_lower (Kd.R_new' (Kd.R_new' (Kd.R_newM (M := fun k_ => (w.heap.size ≤ k_)) ho89 (below_size (by repeat (first | (with_reducible first | exact HB.out | apply below_alloc | apply pw_below_drewN | apply below_drew1 | refine below_set ?_ GE101.out) | exact HB.out))) (fun k_ h_ => h_)) (Kd.R_lt (by (with_reducible repeat (first | apply Kd.R_alloc | apply Kd.R_drewN | apply Kd.R_drew)); exact HO_16.out))) (Kd.R_lt (by (with_reducible repeat (first | apply Kd.R_alloc | apply Kd.R_drewN | apply Kd.R_drew)); exact HO139.out))) (below_size (by repeat (first | (with_reducible first | exact HB.out | apply below_alloc | apply pw_below_drewN | apply below_drew1 | refine below_set ?_ GE101.out) | exact HB.out)))); have n7_ := Aside0.mk (blk_below (g := gb101) (o := .cells #[.string a1_0, .string a1_1, .string a1_2] 47 (0, 0)) (by (with_reducible repeat (first | refine blk_drewN ?_ _ | refine blk_drew ?_ | refine blk_alloc ?_ _)); exact BK101.out) hb); have n8_ := Aside0.mk (Kd.C_below (by repeat (first | (with_reducible exact HR135_0.out) | (with_reducible refine Kd.C_alloc ?_ _) | (with_reducible refine Kd.C_drewN ?_ _) | (with_reducible refine Kd.C_drew ?_) | exact HR135_0.out)) hb); have n9_ := Aside0.mk (below_step (by repeat (first | (with_reducible first | exact HB.out | apply below_alloc | apply pw_below_drewN | apply below_drew1 | refine below_set ?_ GE101.out) | exact HB.out)) hb); clear HO_5; clear HO_6; clear HO_16; clear HO_104; clear HL135_0; clear HO139; clear BK101; clear HR135_0; clear HB; have HO_5 := n0_; have HO_6 := n1_; have HO_16 := n2_; have HO_104 := n3_; have HL135_0 := n4_; have HO139 := n5_; have HO142 := n6_; have BK101 := n7_; have HR135_0 := n8_; have HB := n9_; clear n0_ n1_ n2_ n3_ n4_ n5_ n6_ n7_ n8_ n9_; clear hb ho89) | ((with_reducible refine gate_builtin (b := .append) (xs := #[.tmp 119, .tmp 120]) rfl ?_); at_builtin; refine Kd.R_append_rows Kd.string (w0 := w) w.heap.size rfl (.tmp 119) (.tmp 120) 24 9 (.string ⟨#[]⟩) 16 rfl Try.underlying24 info9 rfl (by decide) (by omega) v141 y140 l5 _ _ _ (fun k_ => (w.heap.size ≤ k_) ∧ some k_ ≠ (.slice Ao86 y129.length co86 : Value).ownBlock ∧ some k_ ≠ (v138 : Value).ownBlock) (fun _ => False) rfl rfl ?aO ?aR (fun _ _ h => h) (fun _ h => h.elim) ?aF ?aB ?aS ?aL ?_; (case aR => repeat (first | exact (Kd.V_reads' HO_5.out).2.2 | (with_reducible refine Kd.C_alloc ?_ _) | (with_reducible refine Kd.C_drewN ?_ _) | (with_reducible refine Kd.C_drew ?_))); (case aB => exact (by repeat (first | (with_reducible first | exact HB.out | apply below_alloc | apply pw_below_drewN | apply below_drew1 | refine below_set ?_ GE101.out) | exact HB.out))); (case aF => exact (fun k_ hk => ⟨(Nat.le_trans (below_size (by repeat (first | (with_reducible first | exact HB.out | apply below_alloc | apply pw_below_drewN | apply below_drew1 | refine below_set ?_ GE101.out) | exact HB.out))) hk), Kd.fresh' (Kd.R_lt (by (with_reducible repeat (first | apply Kd.R_alloc | apply Kd.R_drewN | apply Kd.R_drew)); exact HO_16.out)) k_ hk, Kd.fresh' (Kd.R_lt (by (with_reducible repeat (first | apply Kd.R_alloc | apply Kd.R_drewN | apply Kd.R_drew)); exact HO139.out)) k_ hk⟩)); (case aO => exact (by (with_reducible repeat (first | apply Kd.R_alloc | apply Kd.R_drewN | apply Kd.R_drew)); exact Kd.R_mono HO142.out (fun _ hk => ⟨hk.1.1.1, ⟨hk.1.2, hk.2⟩⟩))); (case aS => exact (below_size (by repeat (first | (with_reducible first | exact HB.out | apply below_alloc | apply pw_below_drewN | apply below_drew1 | refine below_set ?_ GE101.out) | exact HB.out)))); (case aL => have := LMc80.out; omega); intro v144 w90 ho hb hg hat; rw [← Ny143.out] at ho; have n0_ := Aside0.mk (Kd.V_afterv (ok := (fun k_ => ((P2_ k_ ∨ P3_ k_ ∨ P4_ k_ ∨ P5_ k_ ∨ P6_ k_) ∨ w.heap.size ≤ k_) ∧ some k_ ≠ (.slice Ao86 y129.length co86 : Value).ownBlock ∧ some k_ ≠ (.slice (some ad135) y132.length co75 : Value).ownBlock ∧ some k_ ≠ (v138 : Value).ownBlock ∧ k_ ≠ gb101)) (by (with_reducible repeat (first | apply Kd.V_alloc | apply Kd.V_drewN | apply Kd.V_drew)); exact Kd.V_mono HO_5.out (fun _ hk => ⟨⟨hk.1.1.1, ⟨hk.1.1.2.1, ⟨hk.1.1.2.2.1, ⟨hk.1.2, hk.1.1.2.2.2⟩⟩⟩⟩, hk.2⟩)) hg hat); have n1_ := Aside0.mk (Kd.V_afterv (ok := (fun k_ => ((P2_ k_ ∨ P3_ k_ ∨ P4_ k_ ∨ P5_ k_ ∨ P6_ k_) ∨ w.heap.size ≤ k_) ∧ some k_ ≠ (.slice Ao86 y129.length co86 : Value).ownBlock ∧ some k_ ≠ (.slice (some ad135) y132.length co75 : Value).ownBlock ∧ some k_ ≠ (v138 : Value).ownBlock ∧ k_ ≠ gb101)) (by (with_reducible repeat (first | apply Kd.V_alloc | apply Kd.V_drewN | apply Kd.V_drew)); exact Kd.V_mono HO_6.out (fun _ hk => ⟨⟨hk.1.1.1, ⟨hk.1.1.2.1, ⟨hk.1.1.2.2.1, ⟨hk.1.2, hk.1.1.2.2.2⟩⟩⟩⟩, hk.2⟩)) hg hat); have n2_ := Aside0.mk (Kd.R_after (ok := (fun k_ => (w.heap.size ≤ k_) ∧ some k_ ≠ (v138 : Value).ownBlock)) (by (with_reducible repeat (first | apply Kd.R_alloc | apply Kd.R_drewN | apply Kd.R_drew)); exact HO_16.out) hg hat); have n3_ := Aside0.mk (Kd.N_afterv (ok := (fun k_ => ((P2_ k_ ∨ P3_ k_ ∨ P4_ k_ ∨ P5_ k_ ∨ P6_ k_) ∨ w.heap.size ≤ k_) ∧ some k_ ≠ (.slice Ao86 y129.length co86 : Value).ownBlock ∧ some k_ ≠ (v138 : Value).ownBlock ∧ k_ ≠ gb101)) (by (with_reducible repeat (first | apply Kd.N_alloc | apply Kd.N_drewN | apply Kd.N_drew)); exact Kd.N_mono HO_104.out (fun _ hk => ⟨⟨hk.1.1.1, ⟨hk.1.1.2.1, ⟨hk.1.2, hk.1.1.2.2⟩⟩⟩, hk.2⟩)) hg hat); have n4_ := Aside0.mk (blk_grown (g := gb101) (o := .cells #[.string a1_0, .string a1_1, .string a1_2] 47 (0, 0)) (by (with_reducible repeat (first | refine blk_drewN ?_ _ | refine blk_drew ?_ | refine blk_alloc ?_ _)); exact BK101.out) hg (Kd.R_ne HO142.out BK101.out (by decide))); have n5_ := Aside0.mk (Kd.V_afterv (ok := (fun k_ => ((P2_ k_ ∨ P3_ k_ ∨ P4_ k_ ∨ P5_ k_ ∨ P6_ k_) ∨ w.heap.size ≤ k_) ∧ some k_ ≠ (.slice Ao86 y129.length co86 : Value).ownBlock ∧ some k_ ≠ (.slice (some ad135) y132.length co75 : Value).ownBlock ∧ some k_ ≠ (v138 : Value).ownBlock ∧ k_ ≠ gb101)) (by (with_reducible repeat (first | apply Kd.V_alloc | apply Kd.V_drewN | apply Kd.V_drew)); exact Kd.V_mono HL135_0.out (fun _ hk => ⟨⟨hk.1.1.1.1, ⟨hk.1.1.1.2.1, ⟨hk.1.1.2, ⟨hk.1.2, hk.1.1.1.2.2⟩⟩⟩⟩, hk.2⟩)) hg hat); have n6_ := Aside0.mk (Kd.R_after (ok := (fun k_ => (w.heap.size ≤ k_) ∧ some k_ ≠ (.slice Ao86 y129.length co86 : Value).ownBlock)) (by (with_reducible repeat (first | apply Kd.R_alloc | apply Kd.R_drewN | apply Kd.R_drew)); exact Kd.R_mono HO139.out (fun _ hk => ⟨⟨hk.1.1.1, hk.1.2⟩, hk.2⟩)) hg hat); have n7_ := Aside0.mk (hb); have n8_ := Aside0.mk (ho); clear HO_5; clear HO_6; clear HO_16; clear HO_104; clear BK101; clear HL135_0; clear HO139; clear HB; clear HO142; have HO_5 := n0_; have HO_6 := n1_; have HO_16 := n2_; have HO_104 := n3_; have BK101 := n4_; have HL135_0 := n5_; have HO139 := n6_; have HB := n7_; have HO145 := n8_; clear n0_ n1_ n2_ n3_ n4_ n5_ n6_ n7_ n8_; clear ho hb hg hat) | ((with_reducible refine gate_builtin (b := .append) (xs := #[.tmp 121, .tmp 122]) rfl ?_); at_builtin; refine Kd.R_append_rows Kd.string (w0 := w) w.heap.size rfl (.tmp 121) (.tmp 122) 24 9 (.string ⟨#[]⟩) 16 rfl Try.underlying24 info9 rfl (by decide) (by omega) v144 y143 (rd_L6 y132 x106_3) _ _ _ (fun k_ => (w.heap.size ≤ k_) ∧ some k_ ≠ (.slice Ao86 y129.length co86 : Value).ownBlock ∧ some k_ ≠ (v138 : Value).ownBlock) (fun _ => False) rfl rfl ?aO ?aR (fun _ _ h => h) (fun _ h => h.elim) ?aF ?aB ?aS ?aL ?_; (case aR => repeat (first | exact ((Kd.V_reads' (by (with_reducible repeat (first | apply Kd.V_alloc | apply Kd.V_drewN | apply Kd.V_drew)); exact HL135_0.out)).2.2) | (with_reducible refine Kd.C_alloc ?_ _) | (with_reducible refine Kd.C_drewN ?_ _) | (with_reducible refine Kd.C_drew ?_))); (case aB => exact (by repeat (first | (with_reducible first | exact HB.out | apply below_alloc | apply pw_below_drewN | apply below_drew1 | refine below_set ?_ GE101.out) | exact HB.out))); (case aF => exact (fun k_ hk => ⟨(Nat.le_trans (below_size (by repeat (first | (with_reducible first | exact HB.out | apply below_alloc | apply pw_below_drewN | apply below_drew1 | refine below_set ?_ GE101.out) | exact HB.out))) hk), Kd.fresh' (Kd.R_lt (by (with_reducible repeat (first | apply Kd.R_alloc | apply Kd.R_drewN | apply Kd.R_drew)); exact HO_16.out)) k_ hk, Kd.fresh' (Kd.R_lt (by (with_reducible repeat (first | apply Kd.R_alloc | apply Kd.R_drewN | apply Kd.R_drew)); exact HO139.out)) k_ hk⟩)); (case aO => exact (by (with_reducible repeat (first | apply Kd.R_alloc | apply Kd.R_drewN | apply Kd.R_drew)); exact HO145.out)); (case aS => exact (below_size (by repeat (first | (with_reducible first | exact HB.out | apply below_alloc | apply pw_below_drewN | apply below_drew1 | refine below_set ?_ GE101.out) | exact HB.out)))); (case aL => have := LMc81.out; omega); intro v147 w91 ho hb hg hat; rw [← Ny146.out] at ho; have n0_ := Aside0.mk (Kd.V_afterv (ok := (fun k_ => ((P2_ k_ ∨ P3_ k_ ∨ P4_ k_ ∨ P5_ k_ ∨ P6_ k_) ∨ w.heap.size ≤ k_) ∧ some k_ ≠ (.slice Ao86 y129.length co86 : Value).ownBlock ∧ some k_ ≠ (.slice (some ad135) y132.length co75 : Value).ownBlock ∧ some k_ ≠ (v138 : Value).ownBlock ∧ k_ ≠ gb101)) (by (with_reducible repeat (first | apply Kd.V_alloc | apply Kd.V_drewN | apply Kd.V_drew)); exact HO_5.out) hg hat); have n1_ := Aside0.mk (Kd.V_afterv (ok := (fun k_ => ((P2_ k_ ∨ P3_ k_ ∨ P4_ k_ ∨ P5_ k_ ∨ P6_ k_) ∨ w.heap.size ≤ k_) ∧ some k_ ≠ (.slice Ao86 y129.length co86 : Value).ownBlock ∧ some k_ ≠ (.slice (some ad135) y132.length co75 : Value).ownBlock ∧ some k_ ≠ (v138 : Value).ownBlock ∧ k_ ≠ gb101)) (by (with_reducible repeat (first | apply Kd.V_alloc | apply Kd.V_drewN | apply Kd.V_drew)); exact HO_6.out) hg hat); have n2_ := Aside0.mk (Kd.R_after (ok := (fun k_ => (w.heap.size ≤ k_) ∧ some k_ ≠ (v138 : Value).ownBlock)) (by (with_reducible repeat (first | apply Kd.R_alloc | apply Kd.R_drewN | apply Kd.R_drew)); exact HO_16.out) hg hat); have n3_ := Aside0.mk (Kd.N_afterv (ok := (fun k_ => ((P2_ k_ ∨ P3_ k_ ∨ P4_ k_ ∨ P5_ k_ ∨ P6_ k_) ∨ w.heap.size ≤ k_) ∧ some k_ ≠ (.slice Ao86 y129.length co86 : Value).ownBlock ∧ some k_ ≠ (v138 : Value).ownBlock ∧ k_ ≠ gb101)) (by (with_reducible repeat (first | apply Kd.N_alloc | apply Kd.N_drewN | apply Kd.N_drew)); exact HO_104.out) hg hat); have n4_ := Aside0.mk (blk_grown (g := gb101) (o := .cells #[.string a1_0, .string a1_1, .string a1_2] 47 (0, 0)) (by (with_reducible repeat (first | refine blk_drewN ?_ _ | refine blk_drew ?_ | refine blk_alloc ?_ _)); exact BK101.out) hg (Kd.R_ne HO145.out BK101.out (by decide))); have n5_ := Aside0.mk (Kd.V_afterv (ok := (fun k_ => ((P2_ k_ ∨ P3_ k_ ∨ P4_ k_ ∨ P5_ k_ ∨ P6_ k_) ∨ w.heap.size ≤ k_) ∧ some k_ ≠ (.slice Ao86 y129.length co86 : Value).ownBlock ∧ some k_ ≠ (.slice (some ad135) y132.length co75 : Value).ownBlock ∧ some k_ ≠ (v138 : Value).ownBlock ∧ k_ ≠ gb101)) (by (with_reducible repeat (first | apply Kd.V_alloc | apply Kd.V_drewN | apply Kd.V_drew)); exact HL135_0.out) hg hat); have n6_ := Aside0.mk (Kd.R_after (ok := (fun k_ => (w.heap.size ≤ k_) ∧ some k_ ≠ (.slice Ao86 y129.length co86 : Value).ownBlock)) (by (with_reducible repeat (first | apply Kd.R_alloc | apply Kd.R_drewN | apply Kd.R_drew)); exact HO139.out) hg hat); have n7_ := Aside0.mk (hb); have n8_ := Aside0.mk (ho); clear HO_5; clear HO_6; clear HO_16; clear HO_104; clear BK101; clear HL135_0; clear HO139; clear HB; clear HO145; have HO_5 := n0_; have HO_6 := n1_; have HO_16 := n2_; have HO_104 := n3_; have BK101 := n4_; have HL135_0 := n5_; have HO139 := n6_; have HB := n7_; have HO148 := n8_; clear n0_ n1_ n2_ n3_ n4_ n5_ n6_ n7_ n8_; clear ho hb hg hat) | ((with_reducible refine gate_builtin (b := .append) (xs := #[.tmp 123, .tmp 124]) rfl ?_); at_builtin; refine Kd.R_append_rows Kd.string (w0 := w) w.heap.size rfl (.tmp 123) (.tmp 124) 24 9 (.string ⟨#[]⟩) 16 rfl Try.underlying24 info9 rfl (by decide) (by omega) v147 y146 l6 _ _ _ (fun k_ => (w.heap.size ≤ k_) ∧ some k_ ≠ (.slice Ao86 y129.length co86 : Value).ownBlock ∧ some k_ ≠ (v138 : Value).ownBlock) (fun _ => False) rfl rfl ?aO ?aR (fun _ _ h => h) (fun _ h => h.elim) ?aF ?aB ?aS ?aL ?_; (case aR => repeat (first | exact (Kd.V_reads' HO_6.out).2.2 | (with_reducible refine Kd.C_alloc ?_ _) | (with_reducible refine Kd.C_drewN ?_ _) | (with_reducible refine Kd.C_drew ?_))); (case aB => exact (by repeat (first | (with_reducible first | exact HB.out | apply below_alloc | apply pw_below_drewN | apply below_drew1 | refine below_set ?_ GE101.out) | exact HB.out))); (case aF => exact (fun k_ hk => ⟨(Nat.le_trans (below_size (by repeat (first | (with_reducible first | exact HB.out | apply below_alloc | apply pw_below_drewN | apply below_drew1 | refine below_set ?_ GE101.out) | exact HB.out))) hk), Kd.fresh' (Kd.R_lt (by (with_reducible repeat (first | apply Kd.R_alloc | apply Kd.R_drewN | apply Kd.R_drew)); exact HO_16.out)) k_ hk, Kd.fresh' (Kd.R_lt (by (with_reducible repeat (first | apply Kd.R_alloc | apply Kd.R_drewN | apply Kd.R_drew)); exact HO139.out)) k_ hk⟩)); (case aO => exact (by (with_reducible repeat (first | apply Kd.R_alloc | apply Kd.R_drewN | apply Kd.R_drew)); exact HO148.out)); (case aS => exact (below_size (by repeat (first | (with_reducible first | exact HB.out | apply below_alloc | apply pw_below_drewN | apply below_drew1 | refine below_set ?_ GE101.out) | exact HB.out)))); (case aL => have := LMc82.out; omega); intro v150 w92 ho hb hg hat; rw [← Ny149.out] at ho; have n0_ := Aside0.mk (Kd.V_afterv (ok := (fun k_ => ((P2_ k_ ∨ P3_ k_ ∨ P4_ k_ ∨ P5_ k_ ∨ P6_ k_) ∨ w.heap.size ≤ k_) ∧ some k_ ≠ (.slice Ao86 y129.length co86 : Value).ownBlock ∧ some k_ ≠ (.slice (some ad135) y132.length co75 : Value).ownBlock ∧ some k_ ≠ (v138 : Value).ownBlock ∧ k_ ≠ gb101)) (by (with_reducible repeat (first | apply Kd.V_alloc | apply Kd.V_drewN | apply Kd.V_drew)); exact HO_5.out) hg hat); have n1_ := Aside0.mk (Kd.V_afterv (ok := (fun k_ => ((P2_ k_ ∨ P3_ k_ ∨ P4_ k_ ∨ P5_ k_ ∨ P6_ k_) ∨ w.heap.size ≤ k_) ∧ some k_ ≠ (.slice Ao86 y129.length co86 : Value).ownBlock ∧ some k_ ≠ (.slice (some ad135) y132.length co75 : Value).ownBlock ∧ some k_ ≠ (v138 : Value).ownBlock ∧ k_ ≠ gb101)) (by (with_reducible repeat (first | apply Kd.V_alloc | apply Kd.V_drewN | apply Kd.V_drew)); exact HO_6.out) hg hat); have n2_ := Aside0.mk (Kd.R_after (ok := (fun k_ => (w.heap.size ≤ k_) ∧ some k_ ≠ (v138 : Value).ownBlock)) (by (with_reducible repeat (first | apply Kd.R_alloc | apply Kd.R_drewN | apply Kd.R_drew)); exact HO_16.out) hg hat); have n3_ := Aside0.mk (Kd.N_afterv (ok := (fun k_ => ((P2_ k_ ∨ P3_ k_ ∨ P4_ k_ ∨ P5_ k_ ∨ P6_ k_) ∨ w.heap.size ≤ k_) ∧ some k_ ≠ (.slice Ao86 y129.length co86 : Value).ownBlock ∧ some k_ ≠ (v138 : Value).ownBlock ∧ k_ ≠ gb101)) (by (with_reducible repeat (first | apply Kd.N_alloc | apply Kd.N_drewN | apply Kd.N_drew)); exact HO_104.out) hg hat); have n4_ := Aside0.mk (blk_grown (g := gb101) (o := .cells #[.string a1_0, .string a1_1, .string a1_2] 47 (0, 0)) (by (with_reducible repeat (first | refine blk_drewN ?_ _ | refine blk_drew ?_ | refine blk_alloc ?_ _)); exact BK101.out) hg (Kd.R_ne HO148.out BK101.out (by decide))); have n5_ := Aside0.mk (Kd.V_afterv (ok := (fun k_ => ((P2_ k_ ∨ P3_ k_ ∨ P4_ k_ ∨ P5_ k_ ∨ P6_ k_) ∨ w.heap.size ≤ k_) ∧ some k_ ≠ (.slice Ao86 y129.length co86 : Value).ownBlock ∧ some k_ ≠ (.slice (some ad135) y132.length co75 : Value).ownBlock ∧ some k_ ≠ (v138 : Value).ownBlock ∧ k_ ≠ gb101)) (by (with_reducible repeat (first | apply Kd.V_alloc | apply Kd.V_drewN | apply Kd.V_drew)); exact HL135_0.out) hg hat); have n6_ := Aside0.mk (Kd.R_after (ok := (fun k_ => (w.heap.size ≤ k_) ∧ some k_ ≠ (.slice Ao86 y129.length co86 : Value).ownBlock)) (by (with_reducible repeat (first | apply Kd.R_alloc | apply Kd.R_drewN | apply Kd.R_drew)); exact HO139.out) hg hat); have n7_ := Aside0.mk (hb); have n8_ := Aside0.mk (ho); clear HO_5; clear HO_6; clear HO_16; clear HO_104; clear BK101; clear HL135_0; clear HO139; clear HB; clear HO148; have HO_5 := n0_; have HO_6 := n1_; have HO_16 := n2_; have HO_104 := n3_; have BK101 := n4_; have HL135_0 := n5_; have HO139 := n6_; have HB := n7_; have HO151 := n8_; clear n0_ n1_ n2_ n3_ n4_ n5_ n6_ n7_ n8_; clear ho hb hg hat; obtain ⟨Ao93, co93, eo93⟩ := Kd.R_slice HO139.out; subst eo93; obtain ⟨Ao94, co94, eo94⟩ := Kd.R_slice HO151.out; subst eo94) | (go_at_call 27; (with_reducible refine (emendationref02_Same.calls k3 _ _ t136 _ _ y149 true _ ?side1 ?side2 ?side3 ?side4 A84.out).mono ?_); (case side1 => repeat (first | exact (Kd.R_reads' HO139.out).2.2 | (with_reducible refine Kd.C_alloc ?_ _) | (with_reducible refine Kd.C_drewN ?_ _) | (with_reducible refine Kd.C_drew ?_))); (case side2 => exact (Kd.R_reads' HO139.out).2.1); (case side3 => repeat (first | exact (Kd.R_reads' HO151.out).2.2 | (with_reducible refine Kd.C_alloc ?_ _) | (with_reducible refine Kd.C_drewN ?_ _) | (with_reducible refine Kd.C_drew ?_))); (case side4 => exact (Kd.R_reads' HO151.out).2.1); rintro e w' ⟨rfl, ⟨nd, rfl⟩⟩))
                                        go_roundg k3
                                        case measure => have := HJ7.out; have := HJ35.out; have := HK3.out; omega
                                        case rel => exact ⟨(wrap64 (x106_3 + 1)), (by first | rfl | (simp; done) | (simp [*]; done)), H', ⟨by have := HJ7.out; have := HJ35.out; have := HK3.out; omega⟩, ⟨by (with_reducible repeat (first | apply Kd.V_alloc | apply Kd.V_drewN | apply Kd.V_drew)); exact Kd.V_mono HO_5.out (fun _ hk => ⟨hk.1.1, ⟨hk.1.2.1, ⟨hk.1.2.2.1, hk.1.2.2.2.2⟩⟩⟩)⟩, ⟨by (with_reducible repeat (first | apply Kd.V_alloc | apply Kd.V_drewN | apply Kd.V_drew)); exact Kd.V_mono HO_6.out (fun _ hk => ⟨hk.1.1, ⟨hk.1.2.1, ⟨hk.1.2.2.1, hk.1.2.2.2.2⟩⟩⟩)⟩, ⟨by (with_reducible repeat (first | apply Kd.R_alloc | apply Kd.R_drewN | apply Kd.R_drew)); exact Kd.R_mono HO_16.out (fun _ hk => hk.1.1)⟩, ⟨by (with_reducible repeat (first | apply Kd.N_alloc | apply Kd.N_drewN | apply Kd.N_drew)); exact Kd.N_mono HO_104.out (fun _ hk => ⟨hk.1.1, ⟨hk.1.2.1, hk.1.2.2.2⟩⟩)⟩, ⟨by (with_reducible repeat (first | refine blk_drewN ?_ _ | refine blk_drew ?_ | refine blk_alloc ?_ _)); exact BK101.out⟩, ⟨by repeat (first | (with_reducible first | exact HB.out | apply below_alloc | apply pw_below_drewN | apply below_drew1 | refine below_set ?_ GE101.out) | exact HB.out)⟩⟩
                                      · replace c85 := Bool.eq_false_iff.mpr c85
                                        subst c85
                                        have H1 : (some false) = some r := by rw [if_neg (show ¬ (false = true) by decide)] at H; exact H
                                        clear H
                                        have H := H1
                                        clear H1
                                        obtain rfl := Option.some.inj H
                                        have p135 : 0 ≤ (x106_3 : Int) := of_decide_eq_true (by first | (with_reducible assumption) | assumption)
                                        have q135 : x106_3 < (y132.length : Int) := of_decide_eq_true (by first | (with_reducible assumption) | assumption)
                                        obtain ⟨ad135, A135_0, c135_0, e135, hx135_0, hl135_0, hi135_0⟩ := at_L6 (Kd.N_reads' HO_104.out).2.2 x106_3 p135 q135
                                        cases e135
                                        obtain ⟨ce135, hce135, hMe135, hcc135⟩ := Kd.N_get HO_104.out [] x106_3 p135 (by first | exact q135 | exact of_decide_eq_true (by first | (with_reducible assumption) | assumption) | (have e_ := (Kd.N_reads' HO_104.out).1; omega))
                                        obtain ⟨ua135_0, uc135_0, rfl, ul135_0, ge135_0⟩ := Kd.FK_slice_open hMe135
                                        have hv135_0 := hcc135 0 _ rfl
                                        rw [Nat.add_zero, show ((Kd.slice 9 Kd.string)).sz = 1 from rfl, Nat.mul_one] at hv135_0
                                        replace hv135_0 := Option.some.inj (hv135_0.symm.trans hx135_0)
                                        injection hv135_0 with hva_ hvn_ hvc_
                                        rw [hva_] at ge135_0
                                        rw [hvc_] at ul135_0
                                        have HL135_0 := Aside0.mk (show Kd.V Kd.string 9 _ w.heap.size _ _ (rd_L6 y132 x106_3) from Kd.V_mk ul135_0 ge135_0)
                                        clear hva_ hvn_ hvc_ ge135_0 ul135_0
                                        clear hcc135 hce135
                                        have HR135_0 := Aside0.mk hi135_0
                                        have HC135_0 := Aside0.mk hl135_0
                                        clear hi135_0 hl135_0
                                        replace p135 := eq_true p135
                                        replace q135 := eq_true q135
                                        obtain ⟨Ao95, co95, eo95⟩ := Kd.R_slice HO_16.out
                                        subst eo95
                                        go_wp2_with (first | ((with_reducible refine gate_callee (f := 42) rfl ?_); refine goesL_ (some 116) rfl rfl Try.func42 (by kernel_rfl) rfl #[.int .i64 t113, .slice Ao95 y129.length co95, .int .i64 (wrap64 (x106_3 + 1))] rfl (by (try simp only [List.map_toArray, List.map_cons, List.map_nil]); first | done | rfl | (simp only [List.length_drop, List.length_take]; rfl)) ?_; (with_reducible refine (marks_Choose.calls k3 t113 _ _ y129 (wrap64 (x106_3 + 1)) t136 t137 _ ?side1 ?side2 A79.out).mono ?_); (case side1 => repeat (first | exact (Kd.R_reads' HO_16.out).2.2 | (with_reducible refine Kd.C_alloc ?_ _) | (with_reducible refine Kd.C_drewN ?_ _) | (with_reducible refine Kd.C_drew ?_))); (case side2 => exact (Kd.R_reads' HO_16.out).2.1); rintro e w96 ⟨v138, rfl, ho0, hb⟩; refine ⟨_, rfl, ?_⟩; have n0_ := Aside0.mk (Kd.V_elder' (by (with_reducible repeat (first | apply Kd.V_alloc | apply Kd.V_drewN | apply Kd.V_drew)); exact HO_5.out) (Kd.R_base ho0) hb); have n1_ := Aside0.mk (Kd.V_elder' (by (with_reducible repeat (first | apply Kd.V_alloc | apply Kd.V_drewN | apply Kd.V_drew)); exact HO_6.out) (Kd.R_base ho0) hb); have n2_ := Aside0.mk (Kd.R_elder' (by (with_reducible repeat (first | apply Kd.R_alloc | apply Kd.R_drewN | apply Kd.R_drew)); exact HO_16.out) (Kd.R_base ho0) hb); have n3_ := Aside0.mk (Kd.N_elder' (by (with_reducible repeat (first | apply Kd.N_alloc | apply Kd.N_drewN | apply Kd.N_drew)); exact HO_104.out) (Kd.R_base ho0) hb); have n4_ := Aside0.mk (Kd.V_elder' (by (with_reducible repeat (first | apply Kd.V_alloc | apply Kd.V_drewN | apply Kd.V_drew)); exact HL135_0.out) (Kd.R_base ho0) hb); have n5_ := Aside0.mk (Kd.R_lower (Kd.R_new' (Kd.R_newM (M := fun k_ => (w.heap.size ≤ k_)) ho0 (below_size (by repeat (first | (with_reducible first | exact HB.out | apply below_alloc | apply pw_below_drewN | apply below_drew1 | refine below_set ?_ GE101.out) | exact HB.out))) (fun k_ h_ => h_)) (Kd.R_lt (by (with_reducible repeat (first | apply Kd.R_alloc | apply Kd.R_drewN | apply Kd.R_drew)); exact HO_16.out))) (below_size (by repeat (first | (with_reducible first | exact HB.out | apply below_alloc | apply pw_below_drewN | apply below_drew1 | refine below_set ?_ GE101.out) | exact HB.out)))); have n6_ := Aside0.mk (blk_below (g := gb101) (o := .cells #[.string a1_0, .string a1_1, .string a1_2] 47 (0, 0)) (by (with_reducible repeat (first | refine blk_drewN ?_ _ | refine blk_drew ?_ | refine blk_alloc ?_ _)); exact BK101.out) hb); have n7_ := Aside0.mk (Kd.C_below (by repeat (first | (with_reducible exact HR135_0.out) | (with_reducible refine Kd.C_alloc ?_ _) | (with_reducible refine Kd.C_drewN ?_ _) | (with_reducible refine Kd.C_drew ?_) | exact HR135_0.out)) hb); have n8_ := Aside0.mk (below_step (by repeat (first | (with_reducible first | exact HB.out | apply below_alloc | apply pw_below_drewN | apply below_drew1 | refine below_set ?_ GE101.out) | exact HB.out)) hb); clear HO_5; clear HO_6; clear HO_16; clear HO_104; clear HL135_0; clear BK101; clear HR135_0; clear HB; have HO_5 := n0_; have HO_6 := n1_; have HO_16 := n2_; have HO_104 := n3_; have HL135_0 := n4_; have HO139 := n5_; have BK101 := n6_; have HR135_0 := n7_; have HB := n8_; clear n0_ n1_ n2_ n3_ n4_ n5_ n6_ n7_ n8_; (try clear hb); (try clear hb2); (try clear hk); (try clear hi); (try clear ho0)) | ((with_reducible refine gate_dst (N := 119) rfl ?_); refine Kd.R_lit Kd.string _ 9 ?hg (N := 119) ?hd (xs := ([] : List ByteArray)) (inner := []) (ok := fun _ => True) (okp := fun _ => True) ?hr ?hp (fun _ hk => hk) trivial (Below.refl _ _) (Nat.le_refl _) (by simp) ?_; (case hd => rfl); (case hg => rfl); (case hr => first | (go_simp; done) | (go_simp; rfl)); (case hp => exact (Reps.none _ _)); intro v141 w97 ho98 hb hg_ hnew_; clear hg_ hnew_; (first | rw [← Ny140.out] at ho98 | (simp only [Int.reduceToNat] at ho98; rw [← Ny140.out] at ho98)); have n0_ := Aside0.mk (Kd.V_elder' (by (with_reducible repeat (first | apply Kd.V_alloc | apply Kd.V_drewN | apply Kd.V_drew)); exact HO_5.out) (Kd.R_base ho98) hb); have n1_ := Aside0.mk (Kd.V_elder' (by (with_reducible repeat (first | apply Kd.V_alloc | apply Kd.V_drewN | apply Kd.V_drew)); exact HO_6.out) (Kd.R_base ho98) hb); have n2_ := Aside0.mk (Kd.R_elder' (by (with_reducible repeat (first | apply Kd.R_alloc | apply Kd.R_drewN | apply Kd.R_drew)); exact HO_16.out) (Kd.R_base ho98) hb); have n3_ := Aside0.mk (Kd.N_elder' (by (with_reducible repeat (first | apply Kd.N_alloc | apply Kd.N_drewN | apply Kd.N_drew)); exact HO_104.out) (Kd.R_base ho98) hb); have n4_ := Aside0.mk (Kd.V_elder' (by (with_reducible repeat (first | apply Kd.V_alloc | apply Kd.V_drewN | apply Kd.V_drew)); exact HL135_0.out) (Kd.R_base ho98) hb); have n5_ := Aside0.mk (Kd.R_elder' (by (with_reducible repeat (first | apply Kd.R_alloc | apply Kd.R_drewN | apply Kd.R_drew)); exact HO139.out) (Kd.R_base ho98) hb); have n6_ := Aside0.mk (Kd.R_lower (Kd.R_new' (Kd.R_new' (Kd.R_newM (M := fun k_ => (w.heap.size ≤ k_)) ho98 (below_size (by repeat (first | (with_reducible first | exact HB.out | apply below_alloc | apply pw_below_drewN | apply below_drew1 | refine below_set ?_ GE101.out) | exact HB.out))) (fun k_ h_ => h_)) (Kd.R_lt (by (with_reducible repeat (first | apply Kd.R_alloc | apply Kd.R_drewN | apply Kd.R_drew)); exact HO_16.out))) (Kd.R_lt (by (with_reducible repeat (first | apply Kd.R_alloc | apply Kd.R_drewN | apply Kd.R_drew)); exact HO139.out))) (below_size (by repeat (first | (with_reducible first | exact HB.out | apply below_alloc | apply pw_below_drewN | apply below_drew1 | refine below_set ?_ GE101.out) | exact HB.out)))); have n7_ := Aside0.mk (blk_below (g := gb101) (o := .cells #[.string a1_0, .string a1_1, .string a1_2] 47 (0, 0)) (by (with_reducible repeat (first | refine blk_drewN ?_ _ | refine blk_drew ?_ | refine blk_alloc ?_ _)); exact BK101.out) hb); have n8_ := Aside0.mk (Kd.C_below (by repeat (first | (with_reducible exact HR135_0.out) | (with_reducible refine Kd.C_alloc ?_ _) | (with_reducible refine Kd.C_drewN ?_ _) | (with_reducible refine Kd.C_drew ?_) | exact HR135_0.out)) hb); have n9_ := Aside0.mk (below_step (by repeat (first | (with_reducible first | exact HB.out | apply below_alloc | apply pw_below_drewN | apply below_drew1 | refine below_set ?_ GE101.out) | exact HB.out)) hb); clear HO_5; clear HO_6; clear HO_16; clear HO_104; clear HL135_0; clear HO139; clear BK101; clear HR135_0; clear HB; have HO_5 := n0_; have HO_6 := n1_; have HO_16 := n2_; have HO_104 := n3_; have HL135_0 := n4_; have HO139 := n5_; have HO142 := n6_; have BK101 := n7_; have HR135_0 := n8_; have HB := n9_; clear n0_ n1_ n2_ n3_ n4_ n5_ n6_ n7_ n8_ n9_; clear hb ho98) | ((with_reducible refine gate_builtin (b := .append) (xs := #[.tmp 119, .tmp 120]) rfl ?_); at_builtin; refine Kd.R_append_rows Kd.string (w0 := w) w.heap.size rfl (.tmp 119) (.tmp 120) 24 9 (.string ⟨#[]⟩) 16 rfl Try.underlying24 info9 rfl (by decide) (by omega) v141 y140 l5 _ _ _ (fun k_ => (w.heap.size ≤ k_) ∧ some k_ ≠ (.slice Ao95 y129.length co95 : Value).ownBlock ∧ some k_ ≠ (v138 : Value).ownBlock) (fun _ => False) rfl rfl ?aO ?aR (fun _ _ h => h) (fun _ h => h.elim) ?aF ?aB ?aS ?aL ?_; (case aR => repeat (first | exact (Kd.V_reads' HO_5.out).2.2 | (with_reducible refine Kd.C_alloc ?_ _) | (with_reducible refine Kd.C_drewN ?_ _) | (with_reducible refine Kd.C_drew ?_))); (case aB => exact (by repeat (first | (with_reducible first | exact HB.out | apply below_alloc | apply pw_below_drewN | apply below_drew1 | refine below_set ?_ GE101.out) | exact HB.out))); (case aF => exact (fun k_ hk => ⟨(Nat.le_trans (below_size (by repeat (first | (with_reducible first | exact HB.out | apply below_alloc | apply pw_below_drewN | apply below_drew1 | refine below_set ?_ GE101.out) | exact HB.out))) hk), Kd.fresh' (Kd.R_lt (by (with_reducible repeat (first | apply Kd.R_alloc | apply Kd.R_drewN | apply Kd.R_drew)); exact HO_16.out)) k_ hk, Kd.fresh' (Kd.R_lt (by (with_reducible repeat (first | apply Kd.R_alloc | apply Kd.R_drewN | apply Kd.R_drew)); exact HO139.out)) k_ hk⟩)); (case aO => exact (by (with_reducible repeat (first | apply Kd.R_alloc | apply Kd.R_drewN | apply Kd.R_drew)); exact Kd.R_mono HO142.out (fun _ hk => ⟨hk.1.1.1, ⟨hk.1.2, hk.2⟩⟩))); (case aS => exact (below_size (by repeat (first | (with_reducible first | exact HB.out | apply below_alloc | apply pw_below_drewN | apply below_drew1 | refine below_set ?_ GE101.out) | exact HB.out)))); (case aL => have := LMc80.out; omega); intro v144 w99 ho hb hg hat; rw [← Ny143.out] at ho; have n0_ := Aside0.mk (Kd.V_afterv (ok := (fun k_ => ((P2_ k_ ∨ P3_ k_ ∨ P4_ k_ ∨ P5_ k_ ∨ P6_ k_) ∨ w.heap.size ≤ k_) ∧ some k_ ≠ (.slice Ao95 y129.length co95 : Value).ownBlock ∧ some k_ ≠ (.slice (some ad135) y132.length co75 : Value).ownBlock ∧ some k_ ≠ (v138 : Value).ownBlock ∧ k_ ≠ gb101)) (by (with_reducible repeat (first | apply Kd.V_alloc | apply Kd.V_drewN | apply Kd.V_drew)); exact Kd.V_mono HO_5.out (fun _ hk => ⟨⟨hk.1.1.1, ⟨hk.1.1.2.1, ⟨hk.1.1.2.2.1, ⟨hk.1.2, hk.1.1.2.2.2⟩⟩⟩⟩, hk.2⟩)) hg hat); have n1_ := Aside0.mk (Kd.V_afterv (ok := (fun k_ => ((P2_ k_ ∨ P3_ k_ ∨ P4_ k_ ∨ P5_ k_ ∨ P6_ k_) ∨ w.heap.size ≤ k_) ∧ some k_ ≠ (.slice Ao95 y129.length co95 : Value).ownBlock ∧ some k_ ≠ (.slice (some ad135) y132.length co75 : Value).ownBlock ∧ some k_ ≠ (v138 : Value).ownBlock ∧ k_ ≠ gb101)) (by (with_reducible repeat (first | apply Kd.V_alloc | apply Kd.V_drewN | apply Kd.V_drew)); exact Kd.V_mono HO_6.out (fun _ hk => ⟨⟨hk.1.1.1, ⟨hk.1.1.2.1, ⟨hk.1.1.2.2.1, ⟨hk.1.2, hk.1.1.2.2.2⟩⟩⟩⟩, hk.2⟩)) hg hat); have n2_ := Aside0.mk (Kd.R_after (ok := (fun k_ => (w.heap.size ≤ k_) ∧ some k_ ≠ (v138 : Value).ownBlock)) (by (with_reducible repeat (first | apply Kd.R_alloc | apply Kd.R_drewN | apply Kd.R_drew)); exact HO_16.out) hg hat); have n3_ := Aside0.mk (Kd.N_afterv (ok := (fun k_ => ((P2_ k_ ∨ P3_ k_ ∨ P4_ k_ ∨ P5_ k_ ∨ P6_ k_) ∨ w.heap.size ≤ k_) ∧ some k_ ≠ (.slice Ao95 y129.length co95 : Value).ownBlock ∧ some k_ ≠ (v138 : Value).ownBlock ∧ k_ ≠ gb101)) (by (with_reducible repeat (first | apply Kd.N_alloc | apply Kd.N_drewN | apply Kd.N_drew)); exact Kd.N_mono HO_104.out (fun _ hk => ⟨⟨hk.1.1.1, ⟨hk.1.1.2.1, ⟨hk.1.2, hk.1.1.2.2⟩⟩⟩, hk.2⟩)) hg hat); have n4_ := Aside0.mk (blk_grown (g := gb101) (o := .cells #[.string a1_0, .string a1_1, .string a1_2] 47 (0, 0)) (by (with_reducible repeat (first | refine blk_drewN ?_ _ | refine blk_drew ?_ | refine blk_alloc ?_ _)); exact BK101.out) hg (Kd.R_ne HO142.out BK101.out (by decide))); have n5_ := Aside0.mk (Kd.V_afterv (ok := (fun k_ => ((P2_ k_ ∨ P3_ k_ ∨ P4_ k_ ∨ P5_ k_ ∨ P6_ k_) ∨ w.heap.size ≤ k_) ∧ some k_ ≠ (.slice Ao95 y129.length co95 : Value).ownBlock ∧ some k_ ≠ (.slice (some ad135) y132.length co75 : Value).ownBlock ∧ some k_ ≠ (v138 : Value).ownBlock ∧ k_ ≠ gb101)) (by (with_reducible repeat (first | apply Kd.V_alloc | apply Kd.V_drewN | apply Kd.V_drew)); exact Kd.V_mono HL135_0.out (fun _ hk => ⟨⟨hk.1.1.1.1, ⟨hk.1.1.1.2.1, ⟨hk.1.1.2, ⟨hk.1.2, hk.1.1.1.2.2⟩⟩⟩⟩, hk.2⟩)) hg hat); have n6_ := Aside0.mk (Kd.R_after (ok := (fun k_ => (w.heap.size ≤ k_) ∧ some k_ ≠ (.slice Ao95 y129.length co95 : Value).ownBlock)) (by (with_reducible repeat (first | apply Kd.R_alloc | apply Kd.R_drewN | apply Kd.R_drew)); exact Kd.R_mono HO139.out (fun _ hk => ⟨⟨hk.1.1.1, hk.1.2⟩, hk.2⟩)) hg hat); have n7_ := Aside0.mk (hb); have n8_ := Aside0.mk (ho); clear HO_5; clear HO_6; clear HO_16; clear HO_104; clear BK101; clear HL135_0; clear HO139; clear HB; clear HO142; have HO_5 := n0_; have HO_6 := n1_; have HO_16 := n2_; have HO_104 := n3_; have BK101 := n4_; have HL135_0 := n5_; have HO139 := n6_; have HB := n7_; have HO145 := n8_; clear n0_ n1_ n2_ n3_ n4_ n5_ n6_ n7_ n8_; clear ho hb hg hat) | ((with_reducible refine gate_builtin (b := .append) (xs := #[.tmp 121, .tmp 122]) rfl ?_); at_builtin; refine Kd.R_append_rows Kd.string (w0 := w) w.heap.size rfl (.tmp 121) (.tmp 122) 24 9 (.string ⟨#[]⟩) 16 rfl Try.underlying24 info9 rfl (by decide) (by omega) v144 y143 (rd_L6 y132 x106_3) _ _ _ (fun k_ => (w.heap.size ≤ k_) ∧ some k_ ≠ (.slice Ao95 y129.length co95 : Value).ownBlock ∧ some k_ ≠ (v138 : Value).ownBlock) (fun _ => False) rfl rfl ?aO ?aR (fun _ _ h => h) (fun _ h => h.elim) ?aF ?aB ?aS ?aL ?_; (case aR => repeat (first | exact ((Kd.V_reads' (by (with_reducible repeat (first | apply Kd.V_alloc | apply Kd.V_drewN | apply Kd.V_drew)); exact HL135_0.out)).2.2) | (with_reducible refine Kd.C_alloc ?_ _) | (with_reducible refine Kd.C_drewN ?_ _) | (with_reducible refine Kd.C_drew ?_))); (case aB => exact (by repeat (first | (with_reducible first | exact HB.out | apply below_alloc | apply pw_below_drewN | apply below_drew1 | refine below_set ?_ GE101.out) | exact HB.out))); (case aF => exact (fun k_ hk => ⟨(Nat.le_trans (below_size (by repeat (first | (with_reducible first | exact HB.out | apply below_alloc | apply pw_below_drewN | apply below_drew1 | refine below_set ?_ GE101.out) | exact HB.out))) hk), Kd.fresh' (Kd.R_lt (by (with_reducible repeat (first | apply Kd.R_alloc | apply Kd.R_drewN | apply Kd.R_drew)); exact HO_16.out)) k_ hk, Kd.fresh' (Kd.R_lt (by (with_reducible repeat (first | apply Kd.R_alloc | apply Kd.R_drewN | apply Kd.R_drew)); exact HO139.out)) k_ hk⟩)); (case aO => exact (by (with_reducible repeat (first | apply Kd.R_alloc | apply Kd.R_drewN | apply Kd.R_drew)); exact HO145.out)); (case aS => exact (below_size (by repeat (first | (with_reducible first | exact HB.out | apply below_alloc | apply pw_below_drewN | apply below_drew1 | refine below_set ?_ GE101.out) | exact HB.out)))); (case aL => have := LMc81.out; omega); intro v147 w100 ho hb hg hat; rw [← Ny146.out] at ho; have n0_ := Aside0.mk (Kd.V_afterv (ok := (fun k_ => ((P2_ k_ ∨ P3_ k_ ∨ P4_ k_ ∨ P5_ k_ ∨ P6_ k_) ∨ w.heap.size ≤ k_) ∧ some k_ ≠ (.slice Ao95 y129.length co95 : Value).ownBlock ∧ some k_ ≠ (.slice (some ad135) y132.length co75 : Value).ownBlock ∧ some k_ ≠ (v138 : Value).ownBlock ∧ k_ ≠ gb101)) (by (with_reducible repeat (first | apply Kd.V_alloc | apply Kd.V_drewN | apply Kd.V_drew)); exact HO_5.out) hg hat); have n1_ := Aside0.mk (Kd.V_afterv (ok := (fun k_ => ((P2_ k_ ∨ P3_ k_ ∨ P4_ k_ ∨ P5_ k_ ∨ P6_ k_) ∨ w.heap.size ≤ k_) ∧ some k_ ≠ (.slice Ao95 y129.length co95 : Value).ownBlock ∧ some k_ ≠ (.slice (some ad135) y132.length co75 : Value).ownBlock ∧ some k_ ≠ (v138 : Value).ownBlock ∧ k_ ≠ gb101)) (by (with_reducible repeat (first | apply Kd.V_alloc | apply Kd.V_drewN | apply Kd.V_drew)); exact HO_6.out) hg hat); have n2_ := Aside0.mk (Kd.R_after (ok := (fun k_ => (w.heap.size ≤ k_) ∧ some k_ ≠ (v138 : Value).ownBlock)) (by (with_reducible repeat (first | apply Kd.R_alloc | apply Kd.R_drewN | apply Kd.R_drew)); exact HO_16.out) hg hat); have n3_ := Aside0.mk (Kd.N_afterv (ok := (fun k_ => ((P2_ k_ ∨ P3_ k_ ∨ P4_ k_ ∨ P5_ k_ ∨ P6_ k_) ∨ w.heap.size ≤ k_) ∧ some k_ ≠ (.slice Ao95 y129.length co95 : Value).ownBlock ∧ some k_ ≠ (v138 : Value).ownBlock ∧ k_ ≠ gb101)) (by (with_reducible repeat (first | apply Kd.N_alloc | apply Kd.N_drewN | apply Kd.N_drew)); exact HO_104.out) hg hat); have n4_ := Aside0.mk (blk_grown (g := gb101) (o := .cells #[.string a1_0, .string a1_1, .string a1_2] 47 (0, 0)) (by (with_reducible repeat (first | refine blk_drewN ?_ _ | refine blk_drew ?_ | refine blk_alloc ?_ _)); exact BK101.out) hg (Kd.R_ne HO145.out BK101.out (by decide))); have n5_ := Aside0.mk (Kd.V_afterv (ok := (fun k_ => ((P2_ k_ ∨ P3_ k_ ∨ P4_ k_ ∨ P5_ k_ ∨ P6_ k_) ∨ w.heap.size ≤ k_) ∧ some k_ ≠ (.slice Ao95 y129.length co95 : Value).ownBlock ∧ some k_ ≠ (.slice (some ad135) y132.length co75 : Value).ownBlock ∧ some k_ ≠ (v138 : Value).ownBlock ∧ k_ ≠ gb101)) (by (with_reducible repeat (first | apply Kd.V_alloc | apply Kd.V_drewN | apply Kd.V_drew)); exact HL135_0.out) hg hat); have n6_ := Aside0.mk (Kd.R_after (ok := (fun k_ => (w.heap.size ≤ k_) ∧ some k_ ≠ (.slice Ao95 y129.length co95 : Value).ownBlock)) (by (with_reducible repeat (first | apply Kd.R_alloc | apply Kd.R_drewN | apply Kd.R_drew)); exact HO139.out) hg hat); have n7_ := Aside0.mk (hb); have n8_ := Aside0.mk (ho); clear HO_5; clear HO_6; clear HO_16; clear HO_104; clear BK101; clear HL135_0; clear HO139; clear HB; clear HO145; have HO_5 := n0_; have HO_6 := n1_; have HO_16 := n2_; have HO_104 := n3_; have BK101 := n4_; have HL135_0 := n5_; have HO139 := n6_; have HB := n7_; have HO148 := n8_; clear n0_ n1_ n2_ n3_ n4_ n5_ n6_ n7_ n8_; clear ho hb hg hat) | ((with_reducible refine gate_builtin (b := .append) (xs := #[.tmp 123, .tmp 124]) rfl ?_); at_builtin; refine Kd.R_append_rows Kd.string (w0 := w) w.heap.size rfl (.tmp 123) (.tmp 124) 24 9 (.string ⟨#[]⟩) 16 rfl Try.underlying24 info9 rfl (by decide) (by omega) v147 y146 l6 _ _ _ (fun k_ => (w.heap.size ≤ k_) ∧ some k_ ≠ (.slice Ao95 y129.length co95 : Value).ownBlock ∧ some k_ ≠ (v138 : Value).ownBlock) (fun _ => False) rfl rfl ?aO ?aR (fun _ _ h => h) (fun _ h => h.elim) ?aF ?aB ?aS ?aL ?_; (case aR => repeat (first | exact (Kd.V_reads' HO_6.out).2.2 | (with_reducible refine Kd.C_alloc ?_ _) | (with_reducible refine Kd.C_drewN ?_ _) | (with_reducible refine Kd.C_drew ?_))); (case aB => exact (by repeat (first | (with_reducible first | exact HB.out | apply below_alloc | apply pw_below_drewN | apply below_drew1 | refine below_set ?_ GE101.out) | exact HB.out))); (case aF => exact (fun k_ hk => ⟨(Nat.le_trans (below_size (by repeat (first | (with_reducible first | exact HB.out | apply below_alloc | apply pw_below_drewN | apply below_drew1 | refine below_set ?_ GE101.out) | exact HB.out))) hk), Kd.fresh' (Kd.R_lt (by (with_reducible repeat (first | apply Kd.R_alloc | apply Kd.R_drewN | apply Kd.R_drew)); exact HO_16.out)) k_ hk, Kd.fresh' (Kd.R_lt (by (with_reducible repeat (first | apply Kd.R_alloc | apply Kd.R_drewN | apply Kd.R_drew)); exact HO139.out)) k_ hk⟩)); (case aO => exact (by (with_reducible repeat (first | apply Kd.R_alloc | apply Kd.R_drewN | apply Kd.R_drew)); exact HO148.out)); (case aS => exact (below_size (by repeat (first | (with_reducible first | exact HB.out | apply below_alloc | apply pw_below_drewN | apply below_drew1 | refine below_set ?_ GE101.out) | exact HB.out)))); (case aL => have := LMc82.out; omega); intro v150 w101 ho hb hg hat; rw [← Ny149.out] at ho; have n0_ := Aside0.mk (Kd.V_afterv (ok := (fun k_ => ((P2_ k_ ∨ P3_ k_ ∨ P4_ k_ ∨ P5_ k_ ∨ P6_ k_) ∨ w.heap.size ≤ k_) ∧ some k_ ≠ (.slice Ao95 y129.length co95 : Value).ownBlock ∧ some k_ ≠ (.slice (some ad135) y132.length co75 : Value).ownBlock ∧ some k_ ≠ (v138 : Value).ownBlock ∧ k_ ≠ gb101)) (by (with_reducible repeat (first | apply Kd.V_alloc | apply Kd.V_drewN | apply Kd.V_drew)); exact HO_5.out) hg hat); have n1_ := Aside0.mk (Kd.V_afterv (ok := (fun k_ => ((P2_ k_ ∨ P3_ k_ ∨ P4_ k_ ∨ P5_ k_ ∨ P6_ k_) ∨ w.heap.size ≤ k_) ∧ some k_ ≠ (.slice Ao95 y129.length co95 : Value).ownBlock ∧ some k_ ≠ (.slice (some ad135) y132.length co75 : Value).ownBlock ∧ some k_ ≠ (v138 : Value).ownBlock ∧ k_ ≠ gb101)) (by (with_reducible repeat (first | apply Kd.V_alloc | apply Kd.V_drewN | apply Kd.V_drew)); exact HO_6.out) hg hat); have n2_ := Aside0.mk (Kd.R_after (ok := (fun k_ => (w.heap.size ≤ k_) ∧ some k_ ≠ (v138 : Value).ownBlock)) (by (with_reducible repeat (first | apply Kd.R_alloc | apply Kd.R_drewN | apply Kd.R_drew)); exact HO_16.out) hg hat); have n3_ := Aside0.mk (Kd.N_afterv (ok := (fun k_ => ((P2_ k_ ∨ P3_ k_ ∨ P4_ k_ ∨ P5_ k_ ∨ P6_ k_) ∨ w.heap.size ≤ k_) ∧ some k_ ≠ (.slice Ao95 y129.length co95 : Value).ownBlock ∧ some k_ ≠ (v138 : Value).ownBlock ∧ k_ ≠ gb101)) (by (with_reducible repeat (first | apply Kd.N_alloc | apply Kd.N_drewN | apply Kd.N_drew)); exact HO_104.out) hg hat); have n4_ := Aside0.mk (blk_grown (g := gb101) (o := .cells #[.string a1_0, .string a1_1, .string a1_2] 47 (0, 0)) (by (with_reducible repeat (first | refine blk_drewN ?_ _ | refine blk_drew ?_ | refine blk_alloc ?_ _)); exact BK101.out) hg (Kd.R_ne HO148.out BK101.out (by decide))); have n5_ := Aside0.mk (Kd.V_afterv (ok := (fun k_ => ((P2_ k_ ∨ P3_ k_ ∨ P4_ k_ ∨ P5_ k_ ∨ P6_ k_) ∨ w.heap.size ≤ k_) ∧ some k_ ≠ (.slice Ao95 y129.length co95 : Value).ownBlock ∧ some k_ ≠ (.slice (some ad135) y132.length co75 : Value).ownBlock ∧ some k_ ≠ (v138 : Value).ownBlock ∧ k_ ≠ gb101)) (by (with_reducible repeat (first | apply Kd.V_alloc | apply Kd.V_drewN | apply Kd.V_drew)); exact HL135_0.out) hg hat); have n6_ := Aside0.mk (Kd.R_after (ok := (fun k_ => (w.heap.size ≤ k_) ∧ some k_ ≠ (.slice Ao95 y129.length co95 : Value).ownBlock)) (by (with_reducible repeat (first | apply Kd.R_alloc | apply Kd.R_drewN | apply Kd.R_drew)); exact HO139.out) hg hat); have n7_ := Aside0.mk (hb); have n8_ := Aside0.mk (ho); clear HO_5; clear HO_6; clear HO_16; clear HO_104; clear BK101; clear HL135_0; clear HO139; clear HB; clear HO148; have HO_5 := n0_; have HO_6 := n1_; have HO_16 := n2_; have HO_104 := n3_; have BK101 := n4_; have HL135_0 := n5_; have HO139 := n6_; have HB := n7_; have HO151 := n8_; clear n0_ n1_ n2_ n3_ n4_ n5_ n6_ n7_ n8_; clear ho hb hg hat; obtain ⟨Ao102, co102, eo102⟩ := Kd.R_slice HO139.out; subst eo102; obtain ⟨Ao103, co103, eo103⟩ := Kd.R_slice HO151.out; subst eo103) | (go_at_call 27; (with_reducible refine (emendationref02_Same.calls k3 _ _ t136 _ _ y149 false _ ?side1 ?side2 ?side3 ?side4 A84.out).mono ?_); (case side1 => repeat (first | exact (Kd.R_reads' HO139.out).2.2 | (with_reducible refine Kd.C_alloc ?_ _) | (with_reducible refine Kd.C_drewN ?_ _) | (with_reducible refine Kd.C_drew ?_))); (case side2 => exact (Kd.R_reads' HO139.out).2.1); (case side3 => repeat (first | exact (Kd.R_reads' HO151.out).2.2 | (with_reducible refine Kd.C_alloc ?_ _) | (with_reducible refine Kd.C_drewN ?_ _) | (with_reducible refine Kd.C_drew ?_))); (case side4 => exact (Kd.R_reads' HO151.out).2.1); rintro e w' ⟨rfl, ⟨nd, rfl⟩⟩))
                                        go_ret
                                        exact ⟨by first | rfl | (simp [errW_none, errW_some] <;> rfl) | (simp [*, errW_none, errW_some] <;> rfl), by repeat (first | (with_reducible first | exact HB.out | apply below_alloc | apply pw_below_drewN | apply below_drew1 | refine below_set ?_ GE101.out) | exact HB.out)⟩
                                    · rw [if_neg c83] at H
                                      have c83b0 : (t137 == 0) = false := beq_eq_false_iff_ne.mpr c83
                                      have c83b1 : (t137 != 0) = true := bne_iff_ne.mpr c83
                                      obtain rfl := Option.some.inj H
                                      have p135 : 0 ≤ (x106_3 : Int) := of_decide_eq_true (by first | (with_reducible assumption) | assumption)
                                      have q135 : x106_3 < (y132.length : Int) := of_decide_eq_true (by first | (with_reducible assumption) | assumption)
                                      obtain ⟨ad135, A135_0, c135_0, e135, hx135_0, hl135_0, hi135_0⟩ := at_L6 (Kd.N_reads' HO_104.out).2.2 x106_3 p135 q135
                                      cases e135
                                      obtain ⟨ce135, hce135, hMe135, hcc135⟩ := Kd.N_get HO_104.out [] x106_3 p135 (by first | exact q135 | exact of_decide_eq_true (by first | (with_reducible assumption) | assumption) | (have e_ := (Kd.N_reads' HO_104.out).1; omega))
                                      obtain ⟨ua135_0, uc135_0, rfl, ul135_0, ge135_0⟩ := Kd.FK_slice_open hMe135
                                      have hv135_0 := hcc135 0 _ rfl
                                      rw [Nat.add_zero, show ((Kd.slice 9 Kd.string)).sz = 1 from rfl, Nat.mul_one] at hv135_0
                                      replace hv135_0 := Option.some.inj (hv135_0.symm.trans hx135_0)
                                      injection hv135_0 with hva_ hvn_ hvc_
                                      rw [hva_] at ge135_0
                                      rw [hvc_] at ul135_0
                                      have HL135_0 := Aside0.mk (show Kd.V Kd.string 9 _ w.heap.size _ _ (rd_L6 y132 x106_3) from Kd.V_mk ul135_0 ge135_0)
                                      clear hva_ hvn_ hvc_ ge135_0 ul135_0
                                      clear hcc135 hce135
                                      have HR135_0 := Aside0.mk hi135_0
                                      have HC135_0 := Aside0.mk hl135_0
                                      clear hi135_0 hl135_0
                                      replace p135 := eq_true p135
                                      replace q135 := eq_true q135
                                      obtain ⟨Ao104, co104, eo104⟩ := Kd.R_slice HO_16.out
                                      subst eo104
                                      go_wp2_with (first | ((with_reducible refine gate_callee (f := 42) rfl ?_); refine goesL_ (some 116) rfl rfl Try.func42 (by kernel_rfl) rfl #[.int .i64 t113, .slice Ao104 y129.length co104, .int .i64 (wrap64 (x106_3 + 1))] rfl (by (try simp only [List.map_toArray, List.map_cons, List.map_nil]); first | done | rfl | (simp only [List.length_drop, List.length_take]; rfl)) ?_; (with_reducible refine (marks_Choose.calls k3 t113 _ _ y129 (wrap64 (x106_3 + 1)) t136 t137 _ ?side1 ?side2 A79.out).mono ?_); (case side1 => repeat (first | exact (Kd.R_reads' HO_16.out).2.2 | (with_reducible refine Kd.C_alloc ?_ _) | (with_reducible refine Kd.C_drewN ?_ _) | (with_reducible refine Kd.C_drew ?_))); (case side2 => exact (Kd.R_reads' HO_16.out).2.1); rintro e w105 ⟨v138, rfl, ho0, hb⟩; refine ⟨_, rfl, ?_⟩; have n0_ := Aside0.mk (Kd.V_elder' (by (with_reducible repeat (first | apply Kd.V_alloc | apply Kd.V_drewN | apply Kd.V_drew)); exact HO_5.out) (Kd.R_base ho0) hb); have n1_ := Aside0.mk (Kd.V_elder' (by (with_reducible repeat (first | apply Kd.V_alloc | apply Kd.V_drewN | apply Kd.V_drew)); exact HO_6.out) (Kd.R_base ho0) hb); have n2_ := Aside0.mk (Kd.R_elder' (by (with_reducible repeat (first | apply Kd.R_alloc | apply Kd.R_drewN | apply Kd.R_drew)); exact HO_16.out) (Kd.R_base ho0) hb); have n3_ := Aside0.mk (Kd.N_elder' (by (with_reducible repeat (first | apply Kd.N_alloc | apply Kd.N_drewN | apply Kd.N_drew)); exact HO_104.out) (Kd.R_base ho0) hb); have n4_ := Aside0.mk (Kd.V_elder' (by (with_reducible repeat (first | apply Kd.V_alloc | apply Kd.V_drewN | apply Kd.V_drew)); exact HL135_0.out) (Kd.R_base ho0) hb); have n5_ := Aside0.mk (Kd.R_lower (Kd.R_new' (Kd.R_newM (M := fun k_ => (w.heap.size ≤ k_)) ho0 (below_size (by repeat (first | (with_reducible first | exact HB.out | apply below_alloc | apply pw_below_drewN | apply below_drew1 | refine below_set ?_ GE101.out) | exact HB.out))) (fun k_ h_ => h_)) (Kd.R_lt (by (with_reducible repeat (first | apply Kd.R_alloc | apply Kd.R_drewN | apply Kd.R_drew)); exact HO_16.out))) (below_size (by repeat (first | (with_reducible first | exact HB.out | apply below_alloc | apply pw_below_drewN | apply below_drew1 | refine below_set ?_ GE101.out) | exact HB.out)))); have n6_ := Aside0.mk (blk_below (g := gb101) (o := .cells #[.string a1_0, .string a1_1, .string a1_2] 47 (0, 0)) (by (with_reducible repeat (first | refine blk_drewN ?_ _ | refine blk_drew ?_ | refine blk_alloc ?_ _)); exact BK101.out) hb); have n7_ := Aside0.mk (Kd.C_below (by repeat (first | (with_reducible exact HR135_0.out) | (with_reducible refine Kd.C_alloc ?_ _) | (with_reducible refine Kd.C_drewN ?_ _) | (with_reducible refine Kd.C_drew ?_) | exact HR135_0.out)) hb); have n8_ := Aside0.mk (below_step (by repeat (first | (with_reducible first | exact HB.out | apply below_alloc | apply pw_below_drewN | apply below_drew1 | refine below_set ?_ GE101.out) | exact HB.out)) hb); clear HO_5; clear HO_6; clear HO_16; clear HO_104; clear HL135_0; clear BK101; clear HR135_0; clear HB; have HO_5 := n0_; have HO_6 := n1_; have HO_16 := n2_; have HO_104 := n3_; have HL135_0 := n4_; have HO139 := n5_; have BK101 := n6_; have HR135_0 := n7_; have HB := n8_; clear n0_ n1_ n2_ n3_ n4_ n5_ n6_ n7_ n8_; (try clear hb); (try clear hb2); (try clear hk); (try clear hi); (try clear ho0)) | ((with_reducible refine gate_dst (N := 119) rfl ?_); refine Kd.R_lit Kd.string _ 9 ?hg (N := 119) ?hd (xs := ([] : List ByteArray)) (inner := []) (ok := fun _ => True) (okp := fun _ => True) ?hr ?hp (fun _ hk => hk) trivial (Below.refl _ _) (Nat.le_refl _) (by simp) ?_; (case hd => rfl); (case hg => rfl); (case hr => first | (go_simp; done) | (go_simp; rfl)); (case hp => exact (Reps.none _ _)); intro v141 w106 ho107 hb hg_ hnew_; clear hg_ hnew_; (first | rw [← Ny140.out] at ho107 | (simp only [Int.reduceToNat] at ho107; rw [← Ny140.out] at ho107)); have n0_ := Aside0.mk (Kd.V_elder' (by (with_reducible repeat (first | apply Kd.V_alloc | apply Kd.V_drewN | apply Kd.V_drew)); exact HO_5.out) (Kd.R_base ho107) hb); have n1_ := Aside0.mk (Kd.V_elder' (by (with_reducible repeat (first | apply Kd.V_alloc | apply Kd.V_drewN | apply Kd.V_drew)); exact HO_6.out) (Kd.R_base ho107) hb); have n2_ := Aside0.mk (Kd.R_elder' (by (with_reducible repeat (first | apply Kd.R_alloc | apply Kd.R_drewN | apply Kd.R_drew)); exact HO_16.out) (Kd.R_base ho107) hb); have n3_ := Aside0.mk (Kd.N_elder' (by (with_reducible repeat (first | apply Kd.N_alloc | apply Kd.N_drewN | apply Kd.N_drew)); exact HO_104.out) (Kd.R_base ho107) hb); have n4_ := Aside0.mk (Kd.V_elder' (by (with_reducible repeat (first | apply Kd.V_alloc | apply Kd.V_drewN | apply Kd.V_drew)); exact HL135_0.out) (Kd.R_base ho107) hb); have n5_ := Aside0.mk (Kd.R_elder' (by (with_reducible repeat (first | apply Kd.R_alloc | apply Kd.R_drewN | apply Kd.R_drew)); exact HO139.out) (Kd.R_base ho107) hb); have n6_ := Aside0.mk (Kd.R_lower (Kd.R_new' (Kd.R_new' (Kd.R_newM (M := fun k_ => (w.heap.size ≤ k_)) ho107 (below_size (by repeat (first | (with_reducible first | exact HB.out | apply below_alloc | apply pw_below_drewN | apply below_drew1 | refine below_set ?_ GE101.out) | exact HB.out))) (fun k_ h_ => h_)) (Kd.R_lt (by (with_reducible repeat (first | apply Kd.R_alloc | apply Kd.R_drewN | apply Kd.R_drew)); exact HO_16.out))) (Kd.R_lt (by (with_reducible repeat (first | apply Kd.R_alloc | apply Kd.R_drewN | apply Kd.R_drew)); exact HO139.out))) (below_size (by repeat (first | (with_reducible first | exact HB.out | apply below_alloc | apply pw_below_drewN | apply below_drew1 | refine below_set ?_ GE101.out) | exact HB.out)))); have n7_ := Aside0.mk (blk_below (g := gb101) (o := .cells #[.string a1_0, .string a1_1, .string a1_2] 47 (0, 0)) (by (with_reducible repeat (first | refine blk_drewN ?_ _ | refine blk_drew ?_ | refine blk_alloc ?_ _)); exact BK101.out) hb); have n8_ := Aside0.mk (Kd.C_below (by repeat (first | (with_reducible exact HR135_0.out) | (with_reducible refine Kd.C_alloc ?_ _) | (with_reducible refine Kd.C_drewN ?_ _) | (with_reducible refine Kd.C_drew ?_) | exact HR135_0.out)) hb); have n9_ := Aside0.mk (below_step (by repeat (first | (with_reducible first | exact HB.out | apply below_alloc | apply pw_below_drewN | apply below_drew1 | refine below_set ?_ GE101.out) | exact HB.out)) hb); clear HO_5; clear HO_6; clear HO_16; clear HO_104; clear HL135_0; clear HO139; clear BK101; clear HR135_0; clear HB; have HO_5 := n0_; have HO_6 := n1_; have HO_16 := n2_; have HO_104 := n3_; have HL135_0 := n4_; have HO139 := n5_; have HO142 := n6_; have BK101 := n7_; have HR135_0 := n8_; have HB := n9_; clear n0_ n1_ n2_ n3_ n4_ n5_ n6_ n7_ n8_ n9_; clear hb ho107) | ((with_reducible refine gate_builtin (b := .append) (xs := #[.tmp 119, .tmp 120]) rfl ?_); at_builtin; refine Kd.R_append_rows Kd.string (w0 := w) w.heap.size rfl (.tmp 119) (.tmp 120) 24 9 (.string ⟨#[]⟩) 16 rfl Try.underlying24 info9 rfl (by decide) (by omega) v141 y140 l5 _ _ _ (fun k_ => (w.heap.size ≤ k_) ∧ some k_ ≠ (.slice Ao104 y129.length co104 : Value).ownBlock ∧ some k_ ≠ (v138 : Value).ownBlock) (fun _ => False) rfl rfl ?aO ?aR (fun _ _ h => h) (fun _ h => h.elim) ?aF ?aB ?aS ?aL ?_; (case aR => repeat (first | exact (Kd.V_reads' HO_5.out).2.2 | (with_reducible refine Kd.C_alloc ?_ _) | (with_reducible refine Kd.C_drewN ?_ _) | (with_reducible refine Kd.C_drew ?_))); (case aB => exact (by repeat (first | (with_reducible first | exact HB.out | apply below_alloc | apply pw_below_drewN | apply below_drew1 | refine below_set ?_ GE101.out) | exact HB.out))); (case aF => exact (fun k_ hk => ⟨(Nat.le_trans (below_size (by repeat (first | (with_reducible first | exact HB.out | apply below_alloc | apply pw_below_drewN | apply below_drew1 | refine below_set ?_ GE101.out) | exact HB.out))) hk), Kd.fresh' (Kd.R_lt (by (with_reducible repeat (first | apply Kd.R_alloc | apply Kd.R_drewN | apply Kd.R_drew)); exact HO_16.out)) k_ hk, Kd.fresh' (Kd.R_lt (by (with_reducible repeat (first | apply Kd.R_alloc | apply Kd.R_drewN | apply Kd.R_drew)); exact HO139.out)) k_ hk⟩)); (case aO => exact (by (with_reducible repeat (first | apply Kd.R_alloc | apply Kd.R_drewN | apply Kd.R_drew)); exact Kd.R_mono HO142.out (fun _ hk => ⟨hk.1.1.1, ⟨hk.1.2, hk.2⟩⟩))); (case aS => exact (below_size (by repeat (first | (with_reducible first | exact HB.out | apply below_alloc | apply pw_below_drewN | apply below_drew1 | refine below_set ?_ GE101.out) | exact HB.out)))); (case aL => have := LMc80.out; omega); intro v144 w108 ho hb hg hat; rw [← Ny143.out] at ho; have n0_ := Aside0.mk (Kd.V_afterv (ok := (fun k_ => ((P2_ k_ ∨ P3_ k_ ∨ P4_ k_ ∨ P5_ k_ ∨ P6_ k_) ∨ w.heap.size ≤ k_) ∧ some k_ ≠ (.slice Ao104 y129.length co104 : Value).ownBlock ∧ some k_ ≠ (.slice (some ad135) y132.length co75 : Value).ownBlock ∧ some k_ ≠ (v138 : Value).ownBlock ∧ k_ ≠ gb101)) (by (with_reducible repeat (first | apply Kd.V_alloc | apply Kd.V_drewN | apply Kd.V_drew)); exact Kd.V_mono HO_5.out (fun _ hk => ⟨⟨hk.1.1.1, ⟨hk.1.1.2.1, ⟨hk.1.1.2.2.1, ⟨hk.1.2, hk.1.1.2.2.2⟩⟩⟩⟩, hk.2⟩)) hg hat); have n1_ := Aside0.mk (Kd.V_afterv (ok := (fun k_ => ((P2_ k_ ∨ P3_ k_ ∨ P4_ k_ ∨ P5_ k_ ∨ P6_ k_) ∨ w.heap.size ≤ k_) ∧ some k_ ≠ (.slice Ao104 y129.length co104 : Value).ownBlock ∧ some k_ ≠ (.slice (some ad135) y132.length co75 : Value).ownBlock ∧ some k_ ≠ (v138 : Value).ownBlock ∧ k_ ≠ gb101)) (by (with_reducible repeat (first | apply Kd.V_alloc | apply Kd.V_drewN | apply Kd.V_drew)); exact Kd.V_mono HO_6.out (fun _ hk => ⟨⟨hk.1.1.1, ⟨hk.1.1.2.1, ⟨hk.1.1.2.2.1, ⟨hk.1.2, hk.1.1.2.2.2⟩⟩⟩⟩, hk.2⟩)) hg hat); have n2_ := Aside0.mk (Kd.R_after (ok := (fun k_ => (w.heap.size ≤ k_) ∧ some k_ ≠ (v138 : Value).ownBlock)) (by (with_reducible repeat (first | apply Kd.R_alloc | apply Kd.R_drewN | apply Kd.R_drew)); exact HO_16.out) hg hat); have n3_ := Aside0.mk (Kd.N_afterv (ok := (fun k_ => ((P2_ k_ ∨ P3_ k_ ∨ P4_ k_ ∨ P5_ k_ ∨ P6_ k_) ∨ w.heap.size ≤ k_) ∧ some k_ ≠ (.slice Ao104 y129.length co104 : Value).ownBlock ∧ some k_ ≠ (v138 : Value).ownBlock ∧ k_ ≠ gb101)) (by (with_reducible repeat (first | apply Kd.N_alloc | apply Kd.N_drewN | apply Kd.N_drew)); exact Kd.N_mono HO_104.out (fun _ hk => ⟨⟨hk.1.1.1, ⟨hk.1.1.2.1, ⟨hk.1.2, hk.1.1.2.2⟩⟩⟩, hk.2⟩)) hg hat); have n4_ := Aside0.mk (blk_grown (g := gb101) (o := .cells #[.string a1_0, .string a1_1, .string a1_2] 47 (0, 0)) (by (with_reducible repeat (first | refine blk_drewN ?_ _ | refine blk_drew ?_ | refine blk_alloc ?_ _)); exact BK101.out) hg (Kd.R_ne HO142.out BK101.out (by decide))); have n5_ := Aside0.mk (Kd.V_afterv (ok := (fun k_ => ((P2_ k_ ∨ P3_ k_ ∨ P4_ k_ ∨ P5_ k_ ∨ P6_ k_) ∨ w.heap.size ≤ k_) ∧ some k_ ≠ (.slice Ao104 y129.length co104 : Value).ownBlock ∧ some k_ ≠ (.slice (some ad135) y132.length co75 : Value).ownBlock ∧ some k_ ≠ (v138 : Value).ownBlock ∧ k_ ≠ gb101)) (by (with_reducible repeat (first | apply Kd.V_alloc | apply Kd.V_drewN | apply Kd.V_drew)); exact Kd.V_mono HL135_0.out (fun _ hk => ⟨⟨hk.1.1.1.1, ⟨hk.1.1.1.2.1, ⟨hk.1.1.2, ⟨hk.1.2, hk.1.1.1.2.2⟩⟩⟩⟩, hk.2⟩)) hg hat); have n6_ := Aside0.mk (Kd.R_after (ok := (fun k_ => (w.heap.size ≤ k_) ∧ some k_ ≠ (.slice Ao104 y129.length co104 : Value).ownBlock)) (by (with_reducible repeat (first | apply Kd.R_alloc | apply Kd.R_drewN | apply Kd.R_drew)); exact Kd.R_mono HO139.out (fun _ hk => ⟨⟨hk.1.1.1, hk.1.2⟩, hk.2⟩)) hg hat); have n7_ := Aside0.mk (hb); have n8_ := Aside0.mk (ho); clear HO_5; clear HO_6; clear HO_16; clear HO_104; clear BK101; clear HL135_0; clear HO139; clear HB; clear HO142; have HO_5 := n0_; have HO_6 := n1_; have HO_16 := n2_; have HO_104 := n3_; have BK101 := n4_; have HL135_0 := n5_; have HO139 := n6_; have HB := n7_; have HO145 := n8_; clear n0_ n1_ n2_ n3_ n4_ n5_ n6_ n7_ n8_; clear ho hb hg hat) | ((with_reducible refine gate_builtin (b := .append) (xs := #[.tmp 121, .tmp 122]) rfl ?_); at_builtin; refine Kd.R_append_rows Kd.string (w0 := w) w.heap.size rfl (.tmp 121) (.tmp 122) 24 9 (.string ⟨#[]⟩) 16 rfl Try.underlying24 info9 rfl (by decide) (by omega) v144 y143 (rd_L6 y132 x106_3) _ _ _ (fun k_ => (w.heap.size ≤ k_) ∧ some k_ ≠ (.slice Ao104 y129.length co104 : Value).ownBlock ∧ some k_ ≠ (v138 : Value).ownBlock) (fun _ => False) rfl rfl ?aO ?aR (fun _ _ h => h) (fun _ h => h.elim) ?aF ?aB ?aS ?aL ?_; (case aR => repeat (first | exact ((Kd.V_reads' (by (with_reducible repeat (first | apply Kd.V_alloc | apply Kd.V_drewN | apply Kd.V_drew)); exact HL135_0.out)).2.2) | (with_reducible refine Kd.C_alloc ?_ _) | (with_reducible refine Kd.C_drewN ?_ _) | (with_reducible refine Kd.C_drew ?_))); (case aB => exact (by repeat (first | (with_reducible first | exact HB.out | apply below_alloc | apply pw_below_drewN | apply below_drew1 | refine below_set ?_ GE101.out) | exact HB.out))); (case aF => exact (fun k_ hk => ⟨(Nat.le_trans (below_size (by repeat (first | (with_reducible first | exact HB.out | apply below_alloc | apply pw_below_drewN | apply below_drew1 | refine below_set ?_ GE101.out) | exact HB.out))) hk), Kd.fresh' (Kd.R_lt (by (with_reducible repeat (first | apply Kd.R_alloc | apply Kd.R_drewN | apply Kd.R_drew)); exact HO_16.out)) k_ hk, Kd.fresh' (Kd.R_lt (by (with_reducible repeat (first | apply Kd.R_alloc | apply Kd.R_drewN | apply Kd.R_drew)); exact HO139.out)) k_ hk⟩)); (case aO => exact (by (with_reducible repeat (first | apply Kd.R_alloc | apply Kd.R_drewN | apply Kd.R_drew)); exact HO145.out)); (case aS => exact (below_size (by repeat (first | (with_reducible first | exact HB.out | apply below_alloc | apply pw_below_drewN | apply below_drew1 | refine below_set ?_ GE101.out) | exact HB.out)))); (case aL => have := LMc81.out; omega); intro v147 w109 ho hb hg hat; rw [← Ny146.out] at ho; have n0_ := Aside0.mk (Kd.V_afterv (ok := (fun k_ => ((P2_ k_ ∨ P3_ k_ ∨ P4_ k_ ∨ P5_ k_ ∨ P6_ k_) ∨ w.heap.size ≤ k_) ∧ some k_ ≠ (.slice Ao104 y129.length co104 : Value).ownBlock ∧ some k_ ≠ (.slice (some ad135) y132.length co75 : Value).ownBlock ∧ some k_ ≠ (v138 : Value).ownBlock ∧ k_ ≠ gb101)) (by (with_reducible repeat (first | apply Kd.V_alloc | apply Kd.V_drewN | apply Kd.V_drew)); exact HO_5.out) hg hat); have n1_ := Aside0.mk (Kd.V_afterv (ok := (fun k_ => ((P2_ k_ ∨ P3_ k_ ∨ P4_ k_ ∨ P5_ k_ ∨ P6_ k_) ∨ w.heap.size ≤ k_) ∧ some k_ ≠ (.slice Ao104 y129.length co104 : Value).ownBlock ∧ some k_ ≠ (.slice (some ad135) y132.length co75 : Value).ownBlock ∧ some k_ ≠ (v138 : Value).ownBlock ∧ k_ ≠ gb101)) (by (with_reducible repeat (first | apply Kd.V_alloc | apply Kd.V_drewN | apply Kd.V_drew)); exact HO_6.out) hg hat); have n2_ := Aside0.mk (Kd.R_after (ok := (fun k_ => (w.heap.size ≤ k_) ∧ some k_ ≠ (v138 : Value).ownBlock)) (by (with_reducible repeat (first | apply Kd.R_alloc | apply Kd.R_drewN | apply Kd.R_drew)); exact HO_16.out) hg hat); have n3_ := Aside0.mk (Kd.N_afterv (ok := (fun k_ => ((P2_ k_ ∨ P3_ k_ ∨ P4_ k_ ∨ P5_ k_ ∨ P6_ k_) ∨ w.heap.size ≤ k_) ∧ some k_ ≠ (.slice Ao104 y129.length co104 : Value).ownBlock ∧ some k_ ≠ (v138 : Value).ownBlock ∧ k_ ≠ gb101)) (by (with_reducible repeat (first | apply Kd.N_alloc | apply Kd.N_drewN | apply Kd.N_drew)); exact HO_104.out) hg hat); have n4_ := Aside0.mk (blk_grown (g := gb101) (o := .cells #[.string a1_0, .string a1_1, .string a1_2] 47 (0, 0)) (by (with_reducible repeat (first | refine blk_drewN ?_ _ | refine blk_drew ?_ | refine blk_alloc ?_ _)); exact BK101.out) hg (Kd.R_ne HO145.out BK101.out (by decide))); have n5_ := Aside0.mk (Kd.V_afterv (ok := (fun k_ => ((P2_ k_ ∨ P3_ k_ ∨ P4_ k_ ∨ P5_ k_ ∨ P6_ k_) ∨ w.heap.size ≤ k_) ∧ some k_ ≠ (.slice Ao104 y129.length co104 : Value).ownBlock ∧ some k_ ≠ (.slice (some ad135) y132.length co75 : Value).ownBlock ∧ some k_ ≠ (v138 : Value).ownBlock ∧ k_ ≠ gb101)) (by (with_reducible repeat (first | apply Kd.V_alloc | apply Kd.V_drewN | apply Kd.V_drew)); exact HL135_0.out) hg hat); have n6_ := Aside0.mk (Kd.R_after (ok := (fun k_ => (w.heap.size ≤ k_) ∧ some k_ ≠ (.slice Ao104 y129.length co104 : Value).ownBlock)) (by (with_reducible repeat (first | apply Kd.R_alloc | apply Kd.R_drewN | apply Kd.R_drew)); exact HO139.out) hg hat); have n7_ := Aside0.mk (hb); have n8_ := Aside0.mk (ho); clear HO_5; clear HO_6; clear HO_16; clear HO_104; clear BK101; clear HL135_0; clear HO139; clear HB; clear HO145; have HO_5 := n0_; have HO_6 := n1_; have HO_16 := n2_; have HO_104 := n3_; have BK101 := n4_; have HL135_0 := n5_; have HO139 := n6_; have HB := n7_; have HO148 := n8_; clear n0_ n1_ n2_ n3_ n4_ n5_ n6_ n7_ n8_; clear ho hb hg hat) | ((with_reducible refine gate_builtin (b := .append) (xs := #[.tmp 123, .tmp 124]) rfl ?_); at_builtin; refine Kd.R_append_rows Kd.string (w0 := w) w.heap.size rfl (.tmp 123) (.tmp 124) 24 9 (.string ⟨#[]⟩) 16 rfl Try.underlying24 info9 rfl (by decide) (by omega) v147 y146 l6 _ _ _ (fun k_ => (w.heap.size ≤ k_) ∧ some k_ ≠ (.slice Ao104 y129.length co104 : Value).ownBlock ∧ some k_ ≠ (v138 : Value).ownBlock) (fun _ => False) rfl rfl ?aO ?aR (fun _ _ h => h) (fun _ h => h.elim) ?aF ?aB ?aS ?aL ?_; (case aR => repeat (first | exact (Kd.V_reads' HO_6.out).2.2 | (with_reducible refine Kd.C_alloc ?_ _) | (with_reducible refine Kd.C_drewN ?_ _) | (with_reducible refine Kd.C_drew ?_))); (case aB => exact (by repeat (first | (with_reducible first | exact HB.out | apply below_alloc | apply pw_below_drewN | apply below_drew1 | refine below_set ?_ GE101.out) | exact HB.out))); (case aF => exact (fun k_ hk => ⟨(Nat.le_trans (below_size (by repeat (first | (with_reducible first | exact HB.out | apply below_alloc | apply pw_below_drewN | apply below_drew1 | refine below_set ?_ GE101.out) | exact HB.out))) hk), Kd.fresh' (Kd.R_lt (by (with_reducible repeat (first | apply Kd.R_alloc | apply Kd.R_drewN | apply Kd.R_drew)); exact HO_16.out)) k_ hk, Kd.fresh' (Kd.R_lt (by (with_reducible repeat (first | apply Kd.R_alloc | apply Kd.R_drewN | apply Kd.R_drew)); exact HO139.out)) k_ hk⟩)); (case aO => exact (by (with_reducible repeat (first | apply Kd.R_alloc | apply Kd.R_drewN | apply Kd.R_drew)); exact HO148.out)); (case aS => exact (below_size (by repeat (first | (with_reducible first | exact HB.out | apply below_alloc | apply pw_below_drewN | apply below_drew1 | refine below_set ?_ GE101.out) | exact HB.out)))); (case aL => have := LMc82.out; omega); intro v150 w110 ho hb hg hat; rw [← Ny149.out] at ho; have n0_ := Aside0.mk (Kd.V_afterv (ok := (fun k_ => ((P2_ k_ ∨ P3_ k_ ∨ P4_ k_ ∨ P5_ k_ ∨ P6_ k_) ∨ w.heap.size ≤ k_) ∧ some k_ ≠ (.slice Ao104 y129.length co104 : Value).ownBlock ∧ some k_ ≠ (.slice (some ad135) y132.length co75 : Value).ownBlock ∧ some k_ ≠ (v138 : Value).ownBlock ∧ k_ ≠ gb101)) (by (with_reducible repeat (first | apply Kd.V_alloc | apply Kd.V_drewN | apply Kd.V_drew)); exact HO_5.out) hg hat); have n1_ := Aside0.mk (Kd.V_afterv (ok := (fun k_ => ((P2_ k_ ∨ P3_ k_ ∨ P4_ k_ ∨ P5_ k_ ∨ P6_ k_) ∨ w.heap.size ≤ k_) ∧ some k_ ≠ (.slice Ao104 y129.length co104 : Value).ownBlock ∧ some k_ ≠ (.slice (some ad135) y132.length co75 : Value).ownBlock ∧ some k_ ≠ (v138 : Value).ownBlock ∧ k_ ≠ gb101)) (by (with_reducible repeat (first | apply Kd.V_alloc | apply Kd.V_drewN | apply Kd.V_drew)); exact HO_6.out) hg hat); have n2_ := Aside0.mk (Kd.R_after (ok := (fun k_ => (w.heap.size ≤ k_) ∧ some k_ ≠ (v138 : Value).ownBlock)) (by (with_reducible repeat (first | apply Kd.R_alloc | apply Kd.R_drewN | apply Kd.R_drew)); exact HO_16.out) hg hat); have n3_ := Aside0.mk (Kd.N_afterv (ok := (fun k_ => ((P2_ k_ ∨ P3_ k_ ∨ P4_ k_ ∨ P5_ k_ ∨ P6_ k_) ∨ w.heap.size ≤ k_) ∧ some k_ ≠ (.slice Ao104 y129.length co104 : Value).ownBlock ∧ some k_ ≠ (v138 : Value).ownBlock ∧ k_ ≠ gb101)) (by (with_reducible repeat (first | apply Kd.N_alloc | apply Kd.N_drewN | apply Kd.N_drew)); exact HO_104.out) hg hat); have n4_ := Aside0.mk (blk_grown (g := gb101) (o := .cells #[.string a1_0, .string a1_1, .string a1_2] 47 (0, 0)) (by (with_reducible repeat (first | refine blk_drewN ?_ _ | refine blk_drew ?_ | refine blk_alloc ?_ _)); exact BK101.out) hg (Kd.R_ne HO148.out BK101.out (by decide))); have n5_ := Aside0.mk (Kd.V_afterv (ok := (fun k_ => ((P2_ k_ ∨ P3_ k_ ∨ P4_ k_ ∨ P5_ k_ ∨ P6_ k_) ∨ w.heap.size ≤ k_) ∧ some k_ ≠ (.slice Ao104 y129.length co104 : Value).ownBlock ∧ some k_ ≠ (.slice (some ad135) y132.length co75 : Value).ownBlock ∧ some k_ ≠ (v138 : Value).ownBlock ∧ k_ ≠ gb101)) (by (with_reducible repeat (first | apply Kd.V_alloc | apply Kd.V_drewN | apply Kd.V_drew)); exact HL135_0.out) hg hat); have n6_ := Aside0.mk (Kd.R_after (ok := (fun k_ => (w.heap.size ≤ k_) ∧ some k_ ≠ (.slice Ao104 y129.length co104 : Value).ownBlock)) (by (with_reducible repeat (first | apply Kd.R_alloc | apply Kd.R_drewN | apply Kd.R_drew)); exact HO139.out) hg hat); have n7_ := Aside0.mk (hb); have n8_ := Aside0.mk (ho); clear HO_5; clear HO_6; clear HO_16; clear HO_104; clear BK101; clear HL135_0; clear HO139; clear HB; clear HO148; have HO_5 := n0_; have HO_6 := n1_; have HO_16 := n2_; have HO_104 := n3_; have BK101 := n4_; have HL135_0 := n5_; have HO139 := n6_; have HB := n7_; have HO151 := n8_; clear n0_ n1_ n2_ n3_ n4_ n5_ n6_ n7_ n8_; clear ho hb hg hat))
                                      go_ret
                                      exact ⟨by first | rfl | (simp [errW_none, errW_some] <;> rfl) | (simp [*, errW_none, errW_some] <;> rfl), by repeat (first | (with_reducible first | exact HB.out | apply below_alloc | apply pw_below_drewN | apply below_drew1 | refine below_set ?_ GE101.out) | exact HB.out)⟩
                                  · rw [if_neg c82] at H
                                    exact absurd H (by simp)
                                · rw [if_neg c81] at H
                                  exact absurd H (by simp)
                              · rw [if_neg c80] at H
                                exact absurd H (by simp)
                            · rw [if_neg c78] at H
                              exact absurd H (by simp)
                          · rw [if_neg c77] at H
                            exact absurd H (by simp)
                        · rw [if_neg c76] at H
                          have c76b0 : decide (x106_3 < (y132.length : Int)) = false := decide_eq_false c76
                          clear c76
                          obtain rfl := Option.some.inj H
                          go_wp2
                          go_ret
                          exact ⟨by first | rfl | (simp [errW_none, errW_some] <;> rfl) | (simp [*, errW_none, errW_some] <;> rfl), by repeat (first | (with_reducible first | exact HB.out | apply below_alloc | apply pw_below_drewN | apply below_drew1 | refine below_set ?_ GE101.out) | exact HB.out)⟩
                  · rw [if_neg c64] at H
                    exact absurd H (by simp)
                · rw [if_neg c63] at H
                  exact absurd H (by simp)
              · rw [if_neg c61] at H
                exact absurd H (by simp)

end Go.Proofs.Ytlkgdfeeepiidaa.All
