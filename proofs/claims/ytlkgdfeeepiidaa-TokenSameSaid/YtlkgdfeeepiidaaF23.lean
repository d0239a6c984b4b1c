-- Made by a program of this session (wip/mk.py) over the kit's printing program; Lean checks it.
import Derived.Test.YtlkgdfeeepiidaaF0
import Derived.Test.YtlkgdfeeepiidaaF26
import Derived.Test.YtlkgdfeeepiidaaF60
import Derived.Test.YtlkgdfeeepiidaaF47
namespace Go.Proofs.Ytlkgdfeeepiidaa.All
open Go.RowKit Go.Proofs.YtlkgdfeeepiidaaW.PrintWords Go.Proofs.YtlkgdfeeepiidaaW.PrintLast Go.Proofs.YtlkgdfeeepiidaaW.PrintMore
attribute [local go_sem] max2_int min2_int max_two min_two max_three min_three max_four min_four   -- for this text's walks alone
set_option linter.unusedVariables false
set_option linter.unusedSimpArgs false

/-! ### emendationlaw03_TokenSame: function 23 -/
mutual
def emendationlaw03_TokenSame.j0 : Nat → List ByteArray → List ByteArray → List ByteArray → Bool → Option (Bool)
  | 0, _, _, _, _ => none
  | k + 1, x0, x1, x2, x27 => if x27 = true then ((emendationlaw03_awake.f k).bind fun t105 => (some t105)) else ((token_Ids.f k (([x0, x1, x2] : List (List ByteArray)))).bind fun t109 => (if (t109.length : Int) = 3 then (if 0 < (t109.length : Int) then (if ((rd_L3 t109 0).length : Int) = (x0.length : Int) then (if 1 < (t109.length : Int) then (if ((rd_L3 t109 1).length : Int) = (x1.length : Int) then (if 2 < (t109.length : Int) then (if ((rd_L3 t109 2).length : Int) = (x2.length : Int) then ((token_Ids.f k ([] : List (List ByteArray))).bind fun t115 => (emendationlaw03_TokenSame.j1 k x0 x1 x2 t109 ((t115.length : Int) != 0))) else (emendationlaw03_TokenSame.j1 k x0 x1 x2 t109 true)) else (none)) else (emendationlaw03_TokenSame.j1 k x0 x1 x2 t109 true)) else (none)) else (emendationlaw03_TokenSame.j1 k x0 x1 x2 t109 true)) else (none)) else (emendationlaw03_TokenSame.j1 k x0 x1 x2 t109 true)))
def emendationlaw03_TokenSame.j1 : Nat → List ByteArray → List ByteArray → List ByteArray → List (List Int) → Bool → Option (Bool)
  | 0, _, _, _, _, _ => none
  | k + 1, x0, x1, x2, x7, x68 => if x68 = true then (some false) else (emendationlaw03_TokenSame.l0 k x0 x1 x2 x7 (x0.length : Int) 0)
def emendationlaw03_TokenSame.l0 : Nat → List ByteArray → List ByteArray → List ByteArray → List (List Int) → Int → Int → Option (Bool)
  | 0, _, _, _, _, _, _ => none
  | k + 1, x0, x1, x2, x7, x70, x71 => if x71 < x70 then (emendationlaw03_TokenSame.l1 k x0 x1 x2 x7 x71 x70 x71 (x2.length : Int) 0) else (some true)
def emendationlaw03_TokenSame.l1 : Nat → List ByteArray → List ByteArray → List ByteArray → List (List Int) → Int → Int → Int → Int → Int → Option (Bool)
  | 0, _, _, _, _, _, _, _, _, _ => none
  | k + 1, x0, x1, x2, x7, x8, x70, x71, x75, x76 => if x76 < x75 then (if 0 ≤ x8 then (if x8 < (x0.length : Int) then (if 0 ≤ x76 then (if x76 < (x2.length : Int) then (if 0 < (x7.length : Int) then (if x8 < ((rd_L3 x7 0).length : Int) then (if 2 < (x7.length : Int) then (if x76 < ((rd_L3 x7 2).length : Int) then (if (((rdOf ByteArray.empty x0 x8).toList == (rdOf ByteArray.empty x2 x76).toList) != ((rd (rd_L3 x7 0) x8) == (rd (rd_L3 x7 2) x76))) = true then (some false) else (if ((Op.bytesLess ((rdOf ByteArray.empty x0 x8).toList) ((rdOf ByteArray.empty x2 x76).toList)) != (decide ((rd (rd_L3 x7 0) x8) < (rd (rd_L3 x7 2) x76)))) = true then (some false) else (emendationlaw03_TokenSame.l1 k x0 x1 x2 x7 x8 x70 x71 x75 (wrap64 (x76 + 1))))) else (none)) else (none)) else (none)) else (none)) else (none)) else (none)) else (none)) else (none)) else (emendationlaw03_TokenSame.l2 k x0 x1 x2 x7 x8 x70 x71 (x1.length : Int) 0)
def emendationlaw03_TokenSame.l2 : Nat → List ByteArray → List ByteArray → List ByteArray → List (List Int) → Int → Int → Int → Int → Int → Option (Bool)
  | 0, _, _, _, _, _, _, _, _, _ => none
  | k + 1, x0, x1, x2, x7, x8, x70, x71, x129, x130 => if x130 < x129 then (if 0 ≤ x8 then (if x8 < (x0.length : Int) then (if 0 ≤ x130 then (if x130 < (x1.length : Int) then (if 0 < (x7.length : Int) then (if x8 < ((rd_L3 x7 0).length : Int) then (if 1 < (x7.length : Int) then (if x130 < ((rd_L3 x7 1).length : Int) then (if (((rdOf ByteArray.empty x0 x8).toList == (rdOf ByteArray.empty x1 x130).toList) != ((rd (rd_L3 x7 0) x8) == (rd (rd_L3 x7 1) x130))) = true then (some false) else (emendationlaw03_TokenSame.l2 k x0 x1 x2 x7 x8 x70 x71 x129 (wrap64 (x130 + 1)))) else (none)) else (none)) else (none)) else (none)) else (none)) else (none)) else (none)) else (none)) else (emendationlaw03_TokenSame.l0 k x0 x1 x2 x7 x70 (wrap64 (x71 + 1)))
end
def emendationlaw03_TokenSame.f (k : Nat) (l0 : List ByteArray) (l1 : List ByteArray) (l2 : List ByteArray) : Option (Bool) := (emendationlaw03_awake.f k).bind fun t101 => (if t101 = true then ((emendationlaw03_few.f k l0).bind fun t102 => (if t102 = true then ((emendationlaw03_few.f k l1).bind fun t103 => (if t103 = true then ((emendationlaw03_few.f k l2).bind fun t104 => (emendationlaw03_TokenSame.j0 k l0 l1 l2 (!t104))) else (emendationlaw03_TokenSame.j0 k l0 l1 l2 true))) else (emendationlaw03_TokenSame.j0 k l0 l1 l2 true))) else (emendationlaw03_TokenSame.j0 k l0 l1 l2 true))
theorem emendationlaw03_TokenSame.mono_l : ∀ k, (∀ y0 y1 y2 y3, LeO (emendationlaw03_TokenSame.j0 k y0 y1 y2 y3) (emendationlaw03_TokenSame.j0 (k + 1) y0 y1 y2 y3)) ∧ (∀ y0 y1 y2 y3 y4, LeO (emendationlaw03_TokenSame.j1 k y0 y1 y2 y3 y4) (emendationlaw03_TokenSame.j1 (k + 1) y0 y1 y2 y3 y4)) ∧ (∀ y0 y1 y2 y3 y4 y5, LeO (emendationlaw03_TokenSame.l0 k y0 y1 y2 y3 y4 y5) (emendationlaw03_TokenSame.l0 (k + 1) y0 y1 y2 y3 y4 y5)) ∧ (∀ y0 y1 y2 y3 y4 y5 y6 y7 y8, LeO (emendationlaw03_TokenSame.l1 k y0 y1 y2 y3 y4 y5 y6 y7 y8) (emendationlaw03_TokenSame.l1 (k + 1) y0 y1 y2 y3 y4 y5 y6 y7 y8)) ∧ (∀ y0 y1 y2 y3 y4 y5 y6 y7 y8, LeO (emendationlaw03_TokenSame.l2 k y0 y1 y2 y3 y4 y5 y6 y7 y8) (emendationlaw03_TokenSame.l2 (k + 1) y0 y1 y2 y3 y4 y5 y6 y7 y8))
  | 0 => ⟨fun _ _ _ _ r h => by simp [emendationlaw03_TokenSame.j0] at h, fun _ _ _ _ _ r h => by simp [emendationlaw03_TokenSame.j1] at h, fun _ _ _ _ _ _ r h => by simp [emendationlaw03_TokenSame.l0] at h, fun _ _ _ _ _ _ _ _ _ r h => by simp [emendationlaw03_TokenSame.l1] at h, fun _ _ _ _ _ _ _ _ _ r h => by simp [emendationlaw03_TokenSame.l2] at h⟩
  | k + 1 => by
    obtain ⟨ih0, ih1, ih2, ih3, ih4⟩ := emendationlaw03_TokenSame.mono_l k
    refine ⟨?_, ?_, ?_, ?_, ?_⟩
    · intro y0 y1 y2 y3
      unfold emendationlaw03_TokenSame.j0
      repeat' first
      | (with_reducible exact ih0 _ _ _ _)
      | (with_reducible exact ih1 _ _ _ _ _)
      | (with_reducible exact ih2 _ _ _ _ _ _)
      | (with_reducible exact ih3 _ _ _ _ _ _ _ _ _)
      | (with_reducible exact ih4 _ _ _ _ _ _ _ _ _)
      | (with_reducible exact emendationlaw03_awake.mono _)
      | (with_reducible exact emendationlaw03_few.mono _ _)
      | (with_reducible exact token_Ids.mono _ _)
      | (with_reducible exact LeO.refl _)
      | (with_reducible exact LeO.none _)
      | (with_reducible refine LeO.ite ?_ ?_)
      | (with_reducible refine LeO.bind ?_ (fun _ => ?_))
      | exact ih0 _ _ _ _
      | exact ih1 _ _ _ _ _
      | exact ih2 _ _ _ _ _ _
      | exact ih3 _ _ _ _ _ _ _ _ _
      | exact ih4 _ _ _ _ _ _ _ _ _
      | exact emendationlaw03_awake.mono _
      | exact emendationlaw03_few.mono _ _
      | exact token_Ids.mono _ _
      | exact LeO.none _
      | refine LeO.ite ?_ ?_
      | refine LeO.bind ?_ (fun _ => ?_)
    · intro y0 y1 y2 y3 y4
      unfold emendationlaw03_TokenSame.j1
      repeat' first
      | (with_reducible exact ih0 _ _ _ _)
      | (with_reducible exact ih1 _ _ _ _ _)
      | (with_reducible exact ih2 _ _ _ _ _ _)
      | (with_reducible exact ih3 _ _ _ _ _ _ _ _ _)
      | (with_reducible exact ih4 _ _ _ _ _ _ _ _ _)
      | (with_reducible exact emendationlaw03_awake.mono _)
      | (with_reducible exact emendationlaw03_few.mono _ _)
      | (with_reducible exact token_Ids.mono _ _)
      | (with_reducible exact LeO.refl _)
      | (with_reducible exact LeO.none _)
      | (with_reducible refine LeO.ite ?_ ?_)
      | (with_reducible refine LeO.bind ?_ (fun _ => ?_))
      | exact ih0 _ _ _ _
      | exact ih1 _ _ _ _ _
      | exact ih2 _ _ _ _ _ _
      | exact ih3 _ _ _ _ _ _ _ _ _
      | exact ih4 _ _ _ _ _ _ _ _ _
      | exact emendationlaw03_awake.mono _
      | exact emendationlaw03_few.mono _ _
      | exact token_Ids.mono _ _
      | exact LeO.none _
      | refine LeO.ite ?_ ?_
      | refine LeO.bind ?_ (fun _ => ?_)
    · intro y0 y1 y2 y3 y4 y5
      unfold emendationlaw03_TokenSame.l0
      repeat' first
      | (with_reducible exact ih0 _ _ _ _)
      | (with_reducible exact ih1 _ _ _ _ _)
      | (with_reducible exact ih2 _ _ _ _ _ _)
      | (with_reducible exact ih3 _ _ _ _ _ _ _ _ _)
      | (with_reducible exact ih4 _ _ _ _ _ _ _ _ _)
      | (with_reducible exact emendationlaw03_awake.mono _)
      | (with_reducible exact emendationlaw03_few.mono _ _)
      | (with_reducible exact token_Ids.mono _ _)
      | (with_reducible exact LeO.refl _)
      | (with_reducible exact LeO.none _)
      | (with_reducible refine LeO.ite ?_ ?_)
      | (with_reducible refine LeO.bind ?_ (fun _ => ?_))
      | exact ih0 _ _ _ _
      | exact ih1 _ _ _ _ _
      | exact ih2 _ _ _ _ _ _
      | exact ih3 _ _ _ _ _ _ _ _ _
      | exact ih4 _ _ _ _ _ _ _ _ _
      | exact emendationlaw03_awake.mono _
      | exact emendationlaw03_few.mono _ _
      | exact token_Ids.mono _ _
      | exact LeO.none _
      | refine LeO.ite ?_ ?_
      | refine LeO.bind ?_ (fun _ => ?_)
    · intro y0 y1 y2 y3 y4 y5 y6 y7 y8
      unfold emendationlaw03_TokenSame.l1
      repeat' first
      | (with_reducible exact ih0 _ _ _ _)
      | (with_reducible exact ih1 _ _ _ _ _)
      | (with_reducible exact ih2 _ _ _ _ _ _)
      | (with_reducible exact ih3 _ _ _ _ _ _ _ _ _)
      | (with_reducible exact ih4 _ _ _ _ _ _ _ _ _)
      | (with_reducible exact emendationlaw03_awake.mono _)
      | (with_reducible exact emendationlaw03_few.mono _ _)
      | (with_reducible exact token_Ids.mono _ _)
      | (with_reducible exact LeO.refl _)
      | (with_reducible exact LeO.none _)
      | (with_reducible refine LeO.ite ?_ ?_)
      | (with_reducible refine LeO.bind ?_ (fun _ => ?_))
      | exact ih0 _ _ _ _
      | exact ih1 _ _ _ _ _
      | exact ih2 _ _ _ _ _ _
      | exact ih3 _ _ _ _ _ _ _ _ _
      | exact ih4 _ _ _ _ _ _ _ _ _
      | exact emendationlaw03_awake.mono _
      | exact emendationlaw03_few.mono _ _
      | exact token_Ids.mono _ _
      | exact LeO.none _
      | refine LeO.ite ?_ ?_
      | refine LeO.bind ?_ (fun _ => ?_)
    · intro y0 y1 y2 y3 y4 y5 y6 y7 y8
      unfold emendationlaw03_TokenSame.l2
      repeat' first
      | (with_reducible exact ih0 _ _ _ _)
      | (with_reducible exact ih1 _ _ _ _ _)
      | (with_reducible exact ih2 _ _ _ _ _ _)
      | (with_reducible exact ih3 _ _ _ _ _ _ _ _ _)
      | (with_reducible exact ih4 _ _ _ _ _ _ _ _ _)
      | (with_reducible exact emendationlaw03_awake.mono _)
      | (with_reducible exact emendationlaw03_few.mono _ _)
      | (with_reducible exact token_Ids.mono _ _)
      | (with_reducible exact LeO.refl _)
      | (with_reducible exact LeO.none _)
      | (with_reducible refine LeO.ite ?_ ?_)
      | (with_reducible refine LeO.bind ?_ (fun _ => ?_))
      | exact ih0 _ _ _ _
      | exact ih1 _ _ _ _ _
      | exact ih2 _ _ _ _ _ _
      | exact ih3 _ _ _ _ _ _ _ _ _
      | exact ih4 _ _ _ _ _ _ _ _ _
      | exact emendationlaw03_awake.mono _
      | exact emendationlaw03_few.mono _ _
      | exact token_Ids.mono _ _
      | exact LeO.none _
      | refine LeO.ite ?_ ?_
      | refine LeO.bind ?_ (fun _ => ?_)
theorem emendationlaw03_TokenSame.mono : ∀ a0 a1 a2 k, LeO (emendationlaw03_TokenSame.f k a0 a1 a2) (emendationlaw03_TokenSame.f (k + 1) a0 a1 a2) := by
  intro a0 a1 a2 k
  obtain ⟨ih0, ih1, ih2, ih3, ih4⟩ := emendationlaw03_TokenSame.mono_l k
  unfold emendationlaw03_TokenSame.f
  repeat' first
      | (with_reducible exact ih0 _ _ _ _)
      | (with_reducible exact ih1 _ _ _ _ _)
      | (with_reducible exact ih2 _ _ _ _ _ _)
      | (with_reducible exact ih3 _ _ _ _ _ _ _ _ _)
      | (with_reducible exact ih4 _ _ _ _ _ _ _ _ _)
      | (with_reducible exact emendationlaw03_awake.mono _)
      | (with_reducible exact emendationlaw03_few.mono _ _)
      | (with_reducible exact token_Ids.mono _ _)
      | (with_reducible exact LeO.refl _)
      | (with_reducible exact LeO.none _)
      | (with_reducible refine LeO.ite ?_ ?_)
      | (with_reducible refine LeO.bind ?_ (fun _ => ?_))
      | exact ih0 _ _ _ _
      | exact ih1 _ _ _ _ _
      | exact ih2 _ _ _ _ _ _
      | exact ih3 _ _ _ _ _ _ _ _ _
      | exact ih4 _ _ _ _ _ _ _ _ _
      | exact emendationlaw03_awake.mono _
      | exact emendationlaw03_few.mono _ _
      | exact token_Ids.mono _ _
      | exact LeO.none _
      | refine LeO.ite ?_ ?_
      | refine LeO.bind ?_ (fun _ => ?_)
set_option maxHeartbeats 8000000 in
set_option maxRecDepth 100000 in
theorem emendationlaw03_TokenSame.calls (k : Nat) (P0_ : Nat → Prop) (A0 : Option Addr) (c0 : Nat) (l0 : List ByteArray) (P1_ : Nat → Prop) (A1 : Option Addr) (c1 : Nat) (l1 : List ByteArray) (P2_ : Nat → Prop) (A2 : Option Addr) (c2 : Nat) (l2 : List ByteArray) (r : Bool) (w : World) (hs0 : Kd.V Kd.string 9 w w.heap.size (fun k_ => P0_ k_) (.slice A0 l0.length c0) l0) (hs1 : Kd.V Kd.string 9 w w.heap.size (fun k_ => P1_ k_) (.slice A1 l1.length c1) l1) (hs2 : Kd.V Kd.string 9 w w.heap.size (fun k_ => P2_ k_) (.slice A2 l2.length c2) l2) (h : emendationlaw03_TokenSame.f k l0 l1 l2 = some r) :
    Calls Try.prog 23 #[.slice A0 l0.length c0, .slice A1 l1.length c1, .slice A2 l2.length c2] w fun e w' => e = .returned (.bool r) ∧ Below w.heap.size w w' := by
  have HO0 := Aside0.mk (show Kd.V Kd.string 9 w w.heap.size (fun k_ => ((P0_ k_ ∨ P1_ k_ ∨ P2_ k_) ∨ w.heap.size ≤ k_)) (.slice A0 l0.length c0) l0 from Kd.V_mono hs0 (fun k_ hk => .inl (.inl hk)))
  have HO1 := Aside0.mk (show Kd.V Kd.string 9 w w.heap.size (fun k_ => ((P0_ k_ ∨ P1_ k_ ∨ P2_ k_) ∨ w.heap.size ≤ k_)) (.slice A1 l1.length c1) l1 from Kd.V_mono hs1 (fun k_ hk => .inl (.inr (.inl hk))))
  have HO2 := Aside0.mk (show Kd.V Kd.string 9 w w.heap.size (fun k_ => ((P0_ k_ ∨ P1_ k_ ∨ P2_ k_) ∨ w.heap.size ≤ k_)) (.slice A2 l2.length c2) l2 from Kd.V_mono hs2 (fun k_ hk => .inl (.inr (.inr hk))))
  have HB := Aside0.mk (Below.refl w.heap.size w)
  have H : ((emendationlaw03_awake.f k).bind fun t101 => (if t101 = true then ((emendationlaw03_few.f k l0).bind fun t102 => (if t102 = true then ((emendationlaw03_few.f k l1).bind fun t103 => (if t103 = true then ((emendationlaw03_few.f k l2).bind fun t104 => (emendationlaw03_TokenSame.j0 k l0 l1 l2 (!t104))) else (emendationlaw03_TokenSame.j0 k l0 l1 l2 true))) else (emendationlaw03_TokenSame.j0 k l0 l1 l2 true))) else (emendationlaw03_TokenSame.j0 k l0 l1 l2 true))) = some r := h
  clear h
  have HC4 := Aside0.mk H
  clear H
  go_enter Try.func23, Try.ntmps23
  go_upto_region 1 with (fail)
  repeat (go_quiet (fail); go_upto_region 1 with (fail))
  go_cut [27] (fun v27 wc => ∃ (kq : Nat) (x27_3 : Bool), v27 = .bool x27_3 ∧ Aside0 (emendationlaw03_TokenSame.j0 kq l0 l1 l2 x27_3 = some r) ∧ Aside0 (kq ≤ k) ∧ Aside0 (Kd.V Kd.string 9 wc w.heap.size (fun k_ => ((P0_ k_ ∨ P1_ k_ ∨ P2_ k_) ∨ w.heap.size ≤ k_)) (.slice A0 l0.length c0) l0) ∧ Aside0 (Kd.V Kd.string 9 wc w.heap.size (fun k_ => ((P0_ k_ ∨ P1_ k_ ∨ P2_ k_) ∨ w.heap.size ≤ k_)) (.slice A1 l1.length c1) l1) ∧ Aside0 (Kd.V Kd.string 9 wc w.heap.size (fun k_ => ((P0_ k_ ∨ P1_ k_ ∨ P2_ k_) ∨ w.heap.size ≤ k_)) (.slice A2 l2.length c2) l2) ∧ Aside0 (Below w.heap.size w wc))
  case first =>
    have H := HC4.out
    clear HC4
    replace H := Option.bind_eq_some_iff.mp H
    obtain ⟨t101, A50, H⟩ := H
    replace H : (if t101 = true then ((emendationlaw03_few.f k l0).bind fun t102 => (if t102 = true then ((emendationlaw03_few.f k l1).bind fun t103 => (if t103 = true then ((emendationlaw03_few.f k l2).bind fun t104 => (emendationlaw03_TokenSame.j0 k l0 l1 l2 (!t104))) else (emendationlaw03_TokenSame.j0 k l0 l1 l2 true))) else (emendationlaw03_TokenSame.j0 k l0 l1 l2 true))) else (emendationlaw03_TokenSame.j0 k l0 l1 l2 true)) = some r := H
    have A5 := Aside0.mk A50
    clear A50
    by_cases c6 : t101 = true
    · subst c6
      have H1 : ((emendationlaw03_few.f k l0).bind fun t102 => (if t102 = true then ((emendationlaw03_few.f k l1).bind fun t103 => (if t103 = true then ((emendationlaw03_few.f k l2).bind fun t104 => (emendationlaw03_TokenSame.j0 k l0 l1 l2 (!t104))) else (emendationlaw03_TokenSame.j0 k l0 l1 l2 true))) else (emendationlaw03_TokenSame.j0 k l0 l1 l2 true))) = some r := by rw [if_pos rfl] at H; exact H
      clear H
      have H := H1
      clear H1
      replace H := Option.bind_eq_some_iff.mp H
      obtain ⟨t102, A70, H⟩ := H
      replace H : (if t102 = true then ((emendationlaw03_few.f k l1).bind fun t103 => (if t103 = true then ((emendationlaw03_few.f k l2).bind fun t104 => (emendationlaw03_TokenSame.j0 k l0 l1 l2 (!t104))) else (emendationlaw03_TokenSame.j0 k l0 l1 l2 true))) else (emendationlaw03_TokenSame.j0 k l0 l1 l2 true)) = some r := H
      have A7 := Aside0.mk A70
      clear A70
      by_cases c8 : t102 = true
      · subst c8
        have H1 : ((emendationlaw03_few.f k l1).bind fun t103 => (if t103 = true then ((emendationlaw03_few.f k l2).bind fun t104 => (emendationlaw03_TokenSame.j0 k l0 l1 l2 (!t104))) else (emendationlaw03_TokenSame.j0 k l0 l1 l2 true))) = some r := by rw [if_pos rfl] at H; exact H
        clear H
        have H := H1
        clear H1
        replace H := Option.bind_eq_some_iff.mp H
        obtain ⟨t103, A90, H⟩ := H
        replace H : (if t103 = true then ((emendationlaw03_few.f k l2).bind fun t104 => (emendationlaw03_TokenSame.j0 k l0 l1 l2 (!t104))) else (emendationlaw03_TokenSame.j0 k l0 l1 l2 true)) = some r := H
        have A9 := Aside0.mk A90
        clear A90
        by_cases c10 : t103 = true
        · subst c10
          have H1 : ((emendationlaw03_few.f k l2).bind fun t104 => (emendationlaw03_TokenSame.j0 k l0 l1 l2 (!t104))) = some r := by rw [if_pos rfl] at H; exact H
          clear H
          have H := H1
          clear H1
          replace H := Option.bind_eq_some_iff.mp H
          obtain ⟨t104, A110, H⟩ := H
          replace H : (emendationlaw03_TokenSame.j0 k l0 l1 l2 (!t104)) = some r := H
          have A11 := Aside0.mk A110
          clear A110
          have H' := Aside0.mk H
          clear H
          go_wp2_with (first | (go_at_call 26; (with_reducible refine (emendationlaw03_awake.calls k  true _ A5.out).mono ?_); rintro e w12 ⟨rfl, hb⟩; have n0_ := Aside0.mk (Kd.V_below (by (with_reducible repeat (first | apply Kd.V_alloc | apply Kd.V_drewN | apply Kd.V_drew)); exact HO0.out) hb); have n1_ := Aside0.mk (Kd.V_below (by (with_reducible repeat (first | apply Kd.V_alloc | apply Kd.V_drewN | apply Kd.V_drew)); exact HO1.out) hb); have n2_ := Aside0.mk (Kd.V_below (by (with_reducible repeat (first | apply Kd.V_alloc | apply Kd.V_drewN | apply Kd.V_drew)); exact HO2.out) hb); have n3_ := Aside0.mk (below_step (by repeat (first | (with_reducible first | exact HB.out | apply below_alloc | apply pw_below_drewN | apply below_drew1) | exact HB.out)) hb); clear HO0; clear HO1; clear HO2; clear HB; have HO0 := n0_; have HO1 := n1_; have HO2 := n2_; have HB := n3_; clear n0_ n1_ n2_ n3_; (try clear hb); (try clear hb2); (try clear hk); (try clear hi)) | (go_at_call 47; (with_reducible refine (emendationlaw03_few.calls k _ _ l0 true _ ?side1 ?side2 A7.out).mono ?_); (case side1 => repeat (first | exact (Kd.V_reads' HO0.out).2.2 | (with_reducible refine Kd.C_alloc ?_ _) | (with_reducible refine Kd.C_drewN ?_ _) | (with_reducible refine Kd.C_drew ?_))); (case side2 => exact (Kd.V_reads' HO0.out).2.1); rintro e w' ⟨rfl, ⟨nd, rfl⟩⟩; (try first | exact ⟨rfl, _, World.drewN_drewN _ _ _⟩ | exact ⟨rfl, _, Eq.trans (World.drewN_drewN _ _ _) (congrArg (World.drewN _) (Nat.add_assoc _ _ _))⟩)) | (go_at_call 47; (with_reducible refine (emendationlaw03_few.calls k _ _ l1 true _ ?side1 ?side2 A9.out).mono ?_); (case side1 => repeat (first | exact (Kd.V_reads' HO1.out).2.2 | (with_reducible refine Kd.C_alloc ?_ _) | (with_reducible refine Kd.C_drewN ?_ _) | (with_reducible refine Kd.C_drew ?_))); (case side2 => exact (Kd.V_reads' HO1.out).2.1); rintro e w' ⟨rfl, ⟨nd, rfl⟩⟩; (try first | exact ⟨rfl, _, World.drewN_drewN _ _ _⟩ | exact ⟨rfl, _, Eq.trans (World.drewN_drewN _ _ _) (congrArg (World.drewN _) (Nat.add_assoc _ _ _))⟩)) | (go_at_call 47; (with_reducible refine (emendationlaw03_few.calls k _ _ l2 t104 _ ?side1 ?side2 A11.out).mono ?_); (case side1 => repeat (first | exact (Kd.V_reads' HO2.out).2.2 | (with_reducible refine Kd.C_alloc ?_ _) | (with_reducible refine Kd.C_drewN ?_ _) | (with_reducible refine Kd.C_drew ?_))); (case side2 => exact (Kd.V_reads' HO2.out).2.1); rintro e w' ⟨rfl, ⟨nd, rfl⟩⟩; (try first | exact ⟨rfl, _, World.drewN_drewN _ _ _⟩ | exact ⟨rfl, _, Eq.trans (World.drewN_drewN _ _ _) (congrArg (World.drewN _) (Nat.add_assoc _ _ _))⟩)))
          repeat (go_quiet (first | (go_at_call 26; (with_reducible refine (emendationlaw03_awake.calls k  true _ A5.out).mono ?_); rintro e w12 ⟨rfl, hb⟩; have n0_ := Aside0.mk (Kd.V_below (by (with_reducible repeat (first | apply Kd.V_alloc | apply Kd.V_drewN | apply Kd.V_drew)); exact HO0.out) hb); have n1_ := Aside0.mk (Kd.V_below (by (with_reducible repeat (first | apply Kd.V_alloc | apply Kd.V_drewN | apply Kd.V_drew)); exact HO1.out) hb); have n2_ := Aside0.mk (Kd.V_below (by (with_reducible repeat (first | apply Kd.V_alloc | apply Kd.V_drewN | apply Kd.V_drew)); exact HO2.out) hb); have n3_ := Aside0.mk (below_step (by repeat (first | (with_reducible first | exact HB.out | apply below_alloc | apply pw_below_drewN | apply below_drew1) | exact HB.out)) hb); clear HO0; clear HO1; clear HO2; clear HB; have HO0 := n0_; have HO1 := n1_; have HO2 := n2_; have HB := n3_; clear n0_ n1_ n2_ n3_; (try clear hb); (try clear hb2); (try clear hk); (try clear hi)) | (go_at_call 47; (with_reducible refine (emendationlaw03_few.calls k _ _ l0 true _ ?side1 ?side2 A7.out).mono ?_); (case side1 => repeat (first | exact (Kd.V_reads' HO0.out).2.2 | (with_reducible refine Kd.C_alloc ?_ _) | (with_reducible refine Kd.C_drewN ?_ _) | (with_reducible refine Kd.C_drew ?_))); (case side2 => exact (Kd.V_reads' HO0.out).2.1); rintro e w' ⟨rfl, ⟨nd, rfl⟩⟩; (try first | exact ⟨rfl, _, World.drewN_drewN _ _ _⟩ | exact ⟨rfl, _, Eq.trans (World.drewN_drewN _ _ _) (congrArg (World.drewN _) (Nat.add_assoc _ _ _))⟩)) | (go_at_call 47; (with_reducible refine (emendationlaw03_few.calls k _ _ l1 true _ ?side1 ?side2 A9.out).mono ?_); (case side1 => repeat (first | exact (Kd.V_reads' HO1.out).2.2 | (with_reducible refine Kd.C_alloc ?_ _) | (with_reducible refine Kd.C_drewN ?_ _) | (with_reducible refine Kd.C_drew ?_))); (case side2 => exact (Kd.V_reads' HO1.out).2.1); rintro e w' ⟨rfl, ⟨nd, rfl⟩⟩; (try first | exact ⟨rfl, _, World.drewN_drewN _ _ _⟩ | exact ⟨rfl, _, Eq.trans (World.drewN_drewN _ _ _) (congrArg (World.drewN _) (Nat.add_assoc _ _ _))⟩)) | (go_at_call 47; (with_reducible refine (emendationlaw03_few.calls k _ _ l2 t104 _ ?side1 ?side2 A11.out).mono ?_); (case side1 => repeat (first | exact (Kd.V_reads' HO2.out).2.2 | (with_reducible refine Kd.C_alloc ?_ _) | (with_reducible refine Kd.C_drewN ?_ _) | (with_reducible refine Kd.C_drew ?_))); (case side2 => exact (Kd.V_reads' HO2.out).2.1); rintro e w' ⟨rfl, ⟨nd, rfl⟩⟩; (try first | exact ⟨rfl, _, World.drewN_drewN _ _ _⟩ | exact ⟨rfl, _, Eq.trans (World.drewN_drewN _ _ _) (congrArg (World.drewN _) (Nat.add_assoc _ _ _))⟩))); try go_wp2_with (first | (go_at_call 26; (with_reducible refine (emendationlaw03_awake.calls k  true _ A5.out).mono ?_); rintro e w12 ⟨rfl, hb⟩; have n0_ := Aside0.mk (Kd.V_below (by (with_reducible repeat (first | apply Kd.V_alloc | apply Kd.V_drewN | apply Kd.V_drew)); exact HO0.out) hb); have n1_ := Aside0.mk (Kd.V_below (by (with_reducible repeat (first | apply Kd.V_alloc | apply Kd.V_drewN | apply Kd.V_drew)); exact HO1.out) hb); have n2_ := Aside0.mk (Kd.V_below (by (with_reducible repeat (first | apply Kd.V_alloc | apply Kd.V_drewN | apply Kd.V_drew)); exact HO2.out) hb); have n3_ := Aside0.mk (below_step (by repeat (first | (with_reducible first | exact HB.out | apply below_alloc | apply pw_below_drewN | apply below_drew1) | exact HB.out)) hb); clear HO0; clear HO1; clear HO2; clear HB; have HO0 := n0_; have HO1 := n1_; have HO2 := n2_; have HB := n3_; clear n0_ n1_ n2_ n3_; (try clear hb); (try clear hb2); (try clear hk); (try clear hi)) | (go_at_call 47; (with_reducible refine (emendationlaw03_few.calls k _ _ l0 true _ ?side1 ?side2 A7.out).mono ?_); (case side1 => repeat (first | exact (Kd.V_reads' HO0.out).2.2 | (with_reducible refine Kd.C_alloc ?_ _) | (with_reducible refine Kd.C_drewN ?_ _) | (with_reducible refine Kd.C_drew ?_))); (case side2 => exact (Kd.V_reads' HO0.out).2.1); rintro e w' ⟨rfl, ⟨nd, rfl⟩⟩; (try first | exact ⟨rfl, _, World.drewN_drewN _ _ _⟩ | exact ⟨rfl, _, Eq.trans (World.drewN_drewN _ _ _) (congrArg (World.drewN _) (Nat.add_assoc _ _ _))⟩)) | (go_at_call 47; (with_reducible refine (emendationlaw03_few.calls k _ _ l1 true _ ?side1 ?side2 A9.out).mono ?_); (case side1 => repeat (first | exact (Kd.V_reads' HO1.out).2.2 | (with_reducible refine Kd.C_alloc ?_ _) | (with_reducible refine Kd.C_drewN ?_ _) | (with_reducible refine Kd.C_drew ?_))); (case side2 => exact (Kd.V_reads' HO1.out).2.1); rintro e w' ⟨rfl, ⟨nd, rfl⟩⟩; (try first | exact ⟨rfl, _, World.drewN_drewN _ _ _⟩ | exact ⟨rfl, _, Eq.trans (World.drewN_drewN _ _ _) (congrArg (World.drewN _) (Nat.add_assoc _ _ _))⟩)) | (go_at_call 47; (with_reducible refine (emendationlaw03_few.calls k _ _ l2 t104 _ ?side1 ?side2 A11.out).mono ?_); (case side1 => repeat (first | exact (Kd.V_reads' HO2.out).2.2 | (with_reducible refine Kd.C_alloc ?_ _) | (with_reducible refine Kd.C_drewN ?_ _) | (with_reducible refine Kd.C_drew ?_))); (case side2 => exact (Kd.V_reads' HO2.out).2.1); rintro e w' ⟨rfl, ⟨nd, rfl⟩⟩; (try first | exact ⟨rfl, _, World.drewN_drewN _ _ _⟩ | exact ⟨rfl, _, Eq.trans (World.drewN_drewN _ _ _) (congrArg (World.drewN _) (Nat.add_assoc _ _ _))⟩))))
          go_meet
          case rel => exact ⟨_, (!t104), (by first | rfl | (simp; done) | (simp [*]; done)), H', ⟨by first | omega | exact Nat.le_refl _⟩, ⟨by (with_reducible repeat (first | apply Kd.V_alloc | apply Kd.V_drewN | apply Kd.V_drew)); exact HO0.out⟩, ⟨by (with_reducible repeat (first | apply Kd.V_alloc | apply Kd.V_drewN | apply Kd.V_drew)); exact HO1.out⟩, ⟨by (with_reducible repeat (first | apply Kd.V_alloc | apply Kd.V_drewN | apply Kd.V_drew)); exact HO2.out⟩, ⟨by repeat (first | (with_reducible first | exact HB.out | apply below_alloc | apply pw_below_drewN | apply below_drew1) | exact HB.out)⟩⟩
        · replace c10 := Bool.eq_false_iff.mpr c10
          subst c10
          have H1 : (emendationlaw03_TokenSame.j0 k l0 l1 l2 true) = some r := by rw [if_neg (show ¬ (false = true) by decide)] at H; exact H
          clear H
          have H := H1
          clear H1
          have H' := Aside0.mk H
          clear H
          go_wp2_with (first | (go_at_call 26; (with_reducible refine (emendationlaw03_awake.calls k  true _ A5.out).mono ?_); rintro e w13 ⟨rfl, hb⟩; have n0_ := Aside0.mk (Kd.V_below (by (with_reducible repeat (first | apply Kd.V_alloc | apply Kd.V_drewN | apply Kd.V_drew)); exact HO0.out) hb); have n1_ := Aside0.mk (Kd.V_below (by (with_reducible repeat (first | apply Kd.V_alloc | apply Kd.V_drewN | apply Kd.V_drew)); exact HO1.out) hb); have n2_ := Aside0.mk (Kd.V_below (by (with_reducible repeat (first | apply Kd.V_alloc | apply Kd.V_drewN | apply Kd.V_drew)); exact HO2.out) hb); have n3_ := Aside0.mk (below_step (by repeat (first | (with_reducible first | exact HB.out | apply below_alloc | apply pw_below_drewN | apply below_drew1) | exact HB.out)) hb); clear HO0; clear HO1; clear HO2; clear HB; have HO0 := n0_; have HO1 := n1_; have HO2 := n2_; have HB := n3_; clear n0_ n1_ n2_ n3_; (try clear hb); (try clear hb2); (try clear hk); (try clear hi)) | (go_at_call 47; (with_reducible refine (emendationlaw03_few.calls k _ _ l0 true _ ?side1 ?side2 A7.out).mono ?_); (case side1 => repeat (first | exact (Kd.V_reads' HO0.out).2.2 | (with_reducible refine Kd.C_alloc ?_ _) | (with_reducible refine Kd.C_drewN ?_ _) | (with_reducible refine Kd.C_drew ?_))); (case side2 => exact (Kd.V_reads' HO0.out).2.1); rintro e w' ⟨rfl, ⟨nd, rfl⟩⟩; (try first | exact ⟨rfl, _, World.drewN_drewN _ _ _⟩ | exact ⟨rfl, _, Eq.trans (World.drewN_drewN _ _ _) (congrArg (World.drewN _) (Nat.add_assoc _ _ _))⟩)) | (go_at_call 47; (with_reducible refine (emendationlaw03_few.calls k _ _ l1 false _ ?side1 ?side2 A9.out).mono ?_); (case side1 => repeat (first | exact (Kd.V_reads' HO1.out).2.2 | (with_reducible refine Kd.C_alloc ?_ _) | (with_reducible refine Kd.C_drewN ?_ _) | (with_reducible refine Kd.C_drew ?_))); (case side2 => exact (Kd.V_reads' HO1.out).2.1); rintro e w' ⟨rfl, ⟨nd, rfl⟩⟩; (try first | exact ⟨rfl, _, World.drewN_drewN _ _ _⟩ | exact ⟨rfl, _, Eq.trans (World.drewN_drewN _ _ _) (congrArg (World.drewN _) (Nat.add_assoc _ _ _))⟩)))
          repeat (go_quiet (first | (go_at_call 26; (with_reducible refine (emendationlaw03_awake.calls k  true _ A5.out).mono ?_); rintro e w13 ⟨rfl, hb⟩; have n0_ := Aside0.mk (Kd.V_below (by (with_reducible repeat (first | apply Kd.V_alloc | apply Kd.V_drewN | apply Kd.V_drew)); exact HO0.out) hb); have n1_ := Aside0.mk (Kd.V_below (by (with_reducible repeat (first | apply Kd.V_alloc | apply Kd.V_drewN | apply Kd.V_drew)); exact HO1.out) hb); have n2_ := Aside0.mk (Kd.V_below (by (with_reducible repeat (first | apply Kd.V_alloc | apply Kd.V_drewN | apply Kd.V_drew)); exact HO2.out) hb); have n3_ := Aside0.mk (below_step (by repeat (first | (with_reducible first | exact HB.out | apply below_alloc | apply pw_below_drewN | apply below_drew1) | exact HB.out)) hb); clear HO0; clear HO1; clear HO2; clear HB; have HO0 := n0_; have HO1 := n1_; have HO2 := n2_; have HB := n3_; clear n0_ n1_ n2_ n3_; (try clear hb); (try clear hb2); (try clear hk); (try clear hi)) | (go_at_call 47; (with_reducible refine (emendationlaw03_few.calls k _ _ l0 true _ ?side1 ?side2 A7.out).mono ?_); (case side1 => repeat (first | exact (Kd.V_reads' HO0.out).2.2 | (with_reducible refine Kd.C_alloc ?_ _) | (with_reducible refine Kd.C_drewN ?_ _) | (with_reducible refine Kd.C_drew ?_))); (case side2 => exact (Kd.V_reads' HO0.out).2.1); rintro e w' ⟨rfl, ⟨nd, rfl⟩⟩; (try first | exact ⟨rfl, _, World.drewN_drewN _ _ _⟩ | exact ⟨rfl, _, Eq.trans (World.drewN_drewN _ _ _) (congrArg (World.drewN _) (Nat.add_assoc _ _ _))⟩)) | (go_at_call 47; (with_reducible refine (emendationlaw03_few.calls k _ _ l1 false _ ?side1 ?side2 A9.out).mono ?_); (case side1 => repeat (first | exact (Kd.V_reads' HO1.out).2.2 | (with_reducible refine Kd.C_alloc ?_ _) | (with_reducible refine Kd.C_drewN ?_ _) | (with_reducible refine Kd.C_drew ?_))); (case side2 => exact (Kd.V_reads' HO1.out).2.1); rintro e w' ⟨rfl, ⟨nd, rfl⟩⟩; (try first | exact ⟨rfl, _, World.drewN_drewN _ _ _⟩ | exact ⟨rfl, _, Eq.trans (World.drewN_drewN _ _ _) (congrArg (World.drewN _) (Nat.add_assoc _ _ _))⟩))); try go_wp2_with (first | (go_at_call 26; (with_reducible refine (emendationlaw03_awake.calls k  true _ A5.out).mono ?_); rintro e w13 ⟨rfl, hb⟩; have n0_ := Aside0.mk (Kd.V_below (by (with_reducible repeat (first | apply Kd.V_alloc | apply Kd.V_drewN | apply Kd.V_drew)); exact HO0.out) hb); have n1_ := Aside0.mk (Kd.V_below (by (with_reducible repeat (first | apply Kd.V_alloc | apply Kd.V_drewN | apply Kd.V_drew)); exact HO1.out) hb); have n2_ := Aside0.mk (Kd.V_below (by (with_reducible repeat (first | apply Kd.V_alloc | apply Kd.V_drewN | apply Kd.V_drew)); exact HO2.out) hb); have n3_ := Aside0.mk (below_step (by repeat (first | (with_reducible first | exact HB.out | apply below_alloc | apply pw_below_drewN | apply below_drew1) | exact HB.out)) hb); clear HO0; clear HO1; clear HO2; clear HB; have HO0 := n0_; have HO1 := n1_; have HO2 := n2_; have HB := n3_; clear n0_ n1_ n2_ n3_; (try clear hb); (try clear hb2); (try clear hk); (try clear hi)) | (go_at_call 47; (with_reducible refine (emendationlaw03_few.calls k _ _ l0 true _ ?side1 ?side2 A7.out).mono ?_); (case side1 => repeat (first | exact (Kd.V_reads' HO0.out).2.2 | (with_reducible refine Kd.C_alloc ?_ _) | (with_reducible refine Kd.C_drewN ?_ _) | (with_reducible refine Kd.C_drew ?_))); (case side2 => exact (Kd.V_reads' HO0.out).2.1); rintro e w' ⟨rfl, ⟨nd, rfl⟩⟩; (try first | exact ⟨rfl, _, World.drewN_drewN _ _ _⟩ | exact ⟨rfl, _, Eq.trans (World.drewN_drewN _ _ _) (congrArg (World.drewN _) (Nat.add_assoc _ _ _))⟩)) | (go_at_call 47; (with_reducible refine (emendationlaw03_few.calls k _ _ l1 false _ ?side1 ?side2 A9.out).mono ?_); (case side1 => repeat (first | exact (Kd.V_reads' HO1.out).2.2 | (with_reducible refine Kd.C_alloc ?_ _) | (with_reducible refine Kd.C_drewN ?_ _) | (with_reducible refine Kd.C_drew ?_))); (case side2 => exact (Kd.V_reads' HO1.out).2.1); rintro e w' ⟨rfl, ⟨nd, rfl⟩⟩; (try first | exact ⟨rfl, _, World.drewN_drewN _ _ _⟩ | exact ⟨rfl, _, Eq.trans (World.drewN_drewN _ _ _) (congrArg (World.drewN _) (Nat.add_assoc _ _ _))⟩))))
          go_meet
          case rel => exact ⟨_, (true), (by first | rfl | (simp; done) | (simp [*]; done)), H', ⟨by first | omega | exact Nat.le_refl _⟩, ⟨by (with_reducible repeat (first | apply Kd.V_alloc | apply Kd.V_drewN | apply Kd.V_drew)); exact HO0.out⟩, ⟨by (with_reducible repeat (first | apply Kd.V_alloc | apply Kd.V_drewN | apply Kd.V_drew)); exact HO1.out⟩, ⟨by (with_reducible repeat (first | apply Kd.V_alloc | apply Kd.V_drewN | apply Kd.V_drew)); exact HO2.out⟩, ⟨by repeat (first | (with_reducible first | exact HB.out | apply below_alloc | apply pw_below_drewN | apply below_drew1) | exact HB.out)⟩⟩
      · replace c8 := Bool.eq_false_iff.mpr c8
        subst c8
        have H1 : (emendationlaw03_TokenSame.j0 k l0 l1 l2 true) = some r := by rw [if_neg (show ¬ (false = true) by decide)] at H; exact H
        clear H
        have H := H1
        clear H1
        have H' := Aside0.mk H
        clear H
        go_wp2_with (first | (go_at_call 26; (with_reducible refine (emendationlaw03_awake.calls k  true _ A5.out).mono ?_); rintro e w14 ⟨rfl, hb⟩; have n0_ := Aside0.mk (Kd.V_below (by (with_reducible repeat (first | apply Kd.V_alloc | apply Kd.V_drewN | apply Kd.V_drew)); exact HO0.out) hb); have n1_ := Aside0.mk (Kd.V_below (by (with_reducible repeat (first | apply Kd.V_alloc | apply Kd.V_drewN | apply Kd.V_drew)); exact HO1.out) hb); have n2_ := Aside0.mk (Kd.V_below (by (with_reducible repeat (first | apply Kd.V_alloc | apply Kd.V_drewN | apply Kd.V_drew)); exact HO2.out) hb); have n3_ := Aside0.mk (below_step (by repeat (first | (with_reducible first | exact HB.out | apply below_alloc | apply pw_below_drewN | apply below_drew1) | exact HB.out)) hb); clear HO0; clear HO1; clear HO2; clear HB; have HO0 := n0_; have HO1 := n1_; have HO2 := n2_; have HB := n3_; clear n0_ n1_ n2_ n3_; (try clear hb); (try clear hb2); (try clear hk); (try clear hi)) | (go_at_call 47; (with_reducible refine (emendationlaw03_few.calls k _ _ l0 false _ ?side1 ?side2 A7.out).mono ?_); (case side1 => repeat (first | exact (Kd.V_reads' HO0.out).2.2 | (with_reducible refine Kd.C_alloc ?_ _) | (with_reducible refine Kd.C_drewN ?_ _) | (with_reducible refine Kd.C_drew ?_))); (case side2 => exact (Kd.V_reads' HO0.out).2.1); rintro e w' ⟨rfl, ⟨nd, rfl⟩⟩; (try first | exact ⟨rfl, _, World.drewN_drewN _ _ _⟩ | exact ⟨rfl, _, Eq.trans (World.drewN_drewN _ _ _) (congrArg (World.drewN _) (Nat.add_assoc _ _ _))⟩)))
        repeat (go_quiet (first | (go_at_call 26; (with_reducible refine (emendationlaw03_awake.calls k  true _ A5.out).mono ?_); rintro e w14 ⟨rfl, hb⟩; have n0_ := Aside0.mk (Kd.V_below (by (with_reducible repeat (first | apply Kd.V_alloc | apply Kd.V_drewN | apply Kd.V_drew)); exact HO0.out) hb); have n1_ := Aside0.mk (Kd.V_below (by (with_reducible repeat (first | apply Kd.V_alloc | apply Kd.V_drewN | apply Kd.V_drew)); exact HO1.out) hb); have n2_ := Aside0.mk (Kd.V_below (by (with_reducible repeat (first | apply Kd.V_alloc | apply Kd.V_drewN | apply Kd.V_drew)); exact HO2.out) hb); have n3_ := Aside0.mk (below_step (by repeat (first | (with_reducible first | exact HB.out | apply below_alloc | apply pw_below_drewN | apply below_drew1) | exact HB.out)) hb); clear HO0; clear HO1; clear HO2; clear HB; have HO0 := n0_; have HO1 := n1_; have HO2 := n2_; have HB := n3_; clear n0_ n1_ n2_ n3_; (try clear hb); (try clear hb2); (try clear hk); (try clear hi)) | (go_at_call 47; (with_reducible refine (emendationlaw03_few.calls k _ _ l0 false _ ?side1 ?side2 A7.out).mono ?_); (case side1 => repeat (first | exact (Kd.V_reads' HO0.out).2.2 | (with_reducible refine Kd.C_alloc ?_ _) | (with_reducible refine Kd.C_drewN ?_ _) | (with_reducible refine Kd.C_drew ?_))); (case side2 => exact (Kd.V_reads' HO0.out).2.1); rintro e w' ⟨rfl, ⟨nd, rfl⟩⟩; (try first | exact ⟨rfl, _, World.drewN_drewN _ _ _⟩ | exact ⟨rfl, _, Eq.trans (World.drewN_drewN _ _ _) (congrArg (World.drewN _) (Nat.add_assoc _ _ _))⟩))); try go_wp2_with (first | (go_at_call 26; (with_reducible refine (emendationlaw03_awake.calls k  true _ A5.out).mono ?_); rintro e w14 ⟨rfl, hb⟩; have n0_ := Aside0.mk (Kd.V_below (by (with_reducible repeat (first | apply Kd.V_alloc | apply Kd.V_drewN | apply Kd.V_drew)); exact HO0.out) hb); have n1_ := Aside0.mk (Kd.V_below (by (with_reducible repeat (first | apply Kd.V_alloc | apply Kd.V_drewN | apply Kd.V_drew)); exact HO1.out) hb); have n2_ := Aside0.mk (Kd.V_below (by (with_reducible repeat (first | apply Kd.V_alloc | apply Kd.V_drewN | apply Kd.V_drew)); exact HO2.out) hb); have n3_ := Aside0.mk (below_step (by repeat (first | (with_reducible first | exact HB.out | apply below_alloc | apply pw_below_drewN | apply below_drew1) | exact HB.out)) hb); clear HO0; clear HO1; clear HO2; clear HB; have HO0 := n0_; have HO1 := n1_; have HO2 := n2_; have HB := n3_; clear n0_ n1_ n2_ n3_; (try clear hb); (try clear hb2); (try clear hk); (try clear hi)) | (go_at_call 47; (with_reducible refine (emendationlaw03_few.calls k _ _ l0 false _ ?side1 ?side2 A7.out).mono ?_); (case side1 => repeat (first | exact (Kd.V_reads' HO0.out).2.2 | (with_reducible refine Kd.C_alloc ?_ _) | (with_reducible refine Kd.C_drewN ?_ _) | (with_reducible refine Kd.C_drew ?_))); (case side2 => exact (Kd.V_reads' HO0.out).2.1); rintro e w' ⟨rfl, ⟨nd, rfl⟩⟩; (try first | exact ⟨rfl, _, World.drewN_drewN _ _ _⟩ | exact ⟨rfl, _, Eq.trans (World.drewN_drewN _ _ _) (congrArg (World.drewN _) (Nat.add_assoc _ _ _))⟩))))
        go_meet
        case rel => exact ⟨_, (true), (by first | rfl | (simp; done) | (simp [*]; done)), H', ⟨by first | omega | exact Nat.le_refl _⟩, ⟨by (with_reducible repeat (first | apply Kd.V_alloc | apply Kd.V_drewN | apply Kd.V_drew)); exact HO0.out⟩, ⟨by (with_reducible repeat (first | apply Kd.V_alloc | apply Kd.V_drewN | apply Kd.V_drew)); exact HO1.out⟩, ⟨by (with_reducible repeat (first | apply Kd.V_alloc | apply Kd.V_drewN | apply Kd.V_drew)); exact HO2.out⟩, ⟨by repeat (first | (with_reducible first | exact HB.out | apply below_alloc | apply pw_below_drewN | apply below_drew1) | exact HB.out)⟩⟩
    · replace c6 := Bool.eq_false_iff.mpr c6
      subst c6
      have H1 : (emendationlaw03_TokenSame.j0 k l0 l1 l2 true) = some r := by rw [if_neg (show ¬ (false = true) by decide)] at H; exact H
      clear H
      have H := H1
      clear H1
      have H' := Aside0.mk H
      clear H
      go_wp2_with (first | (go_at_call 26; (with_reducible refine (emendationlaw03_awake.calls k  false _ A5.out).mono ?_); rintro e w15 ⟨rfl, hb⟩; have n0_ := Aside0.mk (Kd.V_below (by (with_reducible repeat (first | apply Kd.V_alloc | apply Kd.V_drewN | apply Kd.V_drew)); exact HO0.out) hb); have n1_ := Aside0.mk (Kd.V_below (by (with_reducible repeat (first | apply Kd.V_alloc | apply Kd.V_drewN | apply Kd.V_drew)); exact HO1.out) hb); have n2_ := Aside0.mk (Kd.V_below (by (with_reducible repeat (first | apply Kd.V_alloc | apply Kd.V_drewN | apply Kd.V_drew)); exact HO2.out) hb); have n3_ := Aside0.mk (below_step (by repeat (first | (with_reducible first | exact HB.out | apply below_alloc | apply pw_below_drewN | apply below_drew1) | exact HB.out)) hb); clear HO0; clear HO1; clear HO2; clear HB; have HO0 := n0_; have HO1 := n1_; have HO2 := n2_; have HB := n3_; clear n0_ n1_ n2_ n3_; (try clear hb); (try clear hb2); (try clear hk); (try clear hi)))
      repeat (go_quiet (first | (go_at_call 26; (with_reducible refine (emendationlaw03_awake.calls k  false _ A5.out).mono ?_); rintro e w15 ⟨rfl, hb⟩; have n0_ := Aside0.mk (Kd.V_below (by (with_reducible repeat (first | apply Kd.V_alloc | apply Kd.V_drewN | apply Kd.V_drew)); exact HO0.out) hb); have n1_ := Aside0.mk (Kd.V_below (by (with_reducible repeat (first | apply Kd.V_alloc | apply Kd.V_drewN | apply Kd.V_drew)); exact HO1.out) hb); have n2_ := Aside0.mk (Kd.V_below (by (with_reducible repeat (first | apply Kd.V_alloc | apply Kd.V_drewN | apply Kd.V_drew)); exact HO2.out) hb); have n3_ := Aside0.mk (below_step (by repeat (first | (with_reducible first | exact HB.out | apply below_alloc | apply pw_below_drewN | apply below_drew1) | exact HB.out)) hb); clear HO0; clear HO1; clear HO2; clear HB; have HO0 := n0_; have HO1 := n1_; have HO2 := n2_; have HB := n3_; clear n0_ n1_ n2_ n3_; (try clear hb); (try clear hb2); (try clear hk); (try clear hi))); try go_wp2_with (first | (go_at_call 26; (with_reducible refine (emendationlaw03_awake.calls k  false _ A5.out).mono ?_); rintro e w15 ⟨rfl, hb⟩; have n0_ := Aside0.mk (Kd.V_below (by (with_reducible repeat (first | apply Kd.V_alloc | apply Kd.V_drewN | apply Kd.V_drew)); exact HO0.out) hb); have n1_ := Aside0.mk (Kd.V_below (by (with_reducible repeat (first | apply Kd.V_alloc | apply Kd.V_drewN | apply Kd.V_drew)); exact HO1.out) hb); have n2_ := Aside0.mk (Kd.V_below (by (with_reducible repeat (first | apply Kd.V_alloc | apply Kd.V_drewN | apply Kd.V_drew)); exact HO2.out) hb); have n3_ := Aside0.mk (below_step (by repeat (first | (with_reducible first | exact HB.out | apply below_alloc | apply pw_below_drewN | apply below_drew1) | exact HB.out)) hb); clear HO0; clear HO1; clear HO2; clear HB; have HO0 := n0_; have HO1 := n1_; have HO2 := n2_; have HB := n3_; clear n0_ n1_ n2_ n3_; (try clear hb); (try clear hb2); (try clear hk); (try clear hi))))
      go_meet
      case rel => exact ⟨_, (true), (by first | rfl | (simp; done) | (simp [*]; done)), H', ⟨by first | omega | exact Nat.le_refl _⟩, ⟨by (with_reducible repeat (first | apply Kd.V_alloc | apply Kd.V_drewN | apply Kd.V_drew)); exact HO0.out⟩, ⟨by (with_reducible repeat (first | apply Kd.V_alloc | apply Kd.V_drewN | apply Kd.V_drew)); exact HO1.out⟩, ⟨by (with_reducible repeat (first | apply Kd.V_alloc | apply Kd.V_drewN | apply Kd.V_drew)); exact HO2.out⟩, ⟨by repeat (first | (with_reducible first | exact HB.out | apply below_alloc | apply pw_below_drewN | apply below_drew1) | exact HB.out)⟩⟩
  case rest =>
    clear HC4
    try clear c1
    try clear c2
    try clear p2
    try clear c6
    try clear c8
    try clear c10
    obtain ⟨kq, x27_3, rfl, HA, HJ3, HO_0, HO_1, HO_2, HB⟩ := hcut
    cases kq with
    | zero => exact absurd HA.out (by simp [emendationlaw03_TokenSame.j0])
    | succ kj3 =>
      have H := HA.out
      clear HA
      simp only [emendationlaw03_TokenSame.j0] at H
      by_cases c16 : x27_3 = true
      · subst c16
        have H1 : ((emendationlaw03_awake.f kj3).bind fun t105 => (some t105)) = some r := by rw [if_pos rfl] at H; exact H
        clear H
        have H := H1
        clear H1
        replace H := Option.bind_eq_some_iff.mp H
        obtain ⟨t105, A170, H⟩ := H
        replace H : (some t105) = some r := H
        have A17 := Aside0.mk A170
        clear A170
        obtain rfl := Option.some.inj H
        go_wp2_with (first | (go_at_call 26; (with_reducible refine (emendationlaw03_awake.calls kj3  t105 _ A17.out).mono ?_); rintro e w18 ⟨rfl, hb⟩; have n0_ := Aside0.mk (Kd.V_below (by (with_reducible repeat (first | apply Kd.V_alloc | apply Kd.V_drewN | apply Kd.V_drew)); exact HO_0.out) hb); have n1_ := Aside0.mk (Kd.V_below (by (with_reducible repeat (first | apply Kd.V_alloc | apply Kd.V_drewN | apply Kd.V_drew)); exact HO_1.out) hb); have n2_ := Aside0.mk (Kd.V_below (by (with_reducible repeat (first | apply Kd.V_alloc | apply Kd.V_drewN | apply Kd.V_drew)); exact HO_2.out) hb); have n3_ := Aside0.mk (below_step (by repeat (first | (with_reducible first | exact HB.out | apply below_alloc | apply pw_below_drewN | apply below_drew1) | exact HB.out)) hb); clear HO_0; clear HO_1; clear HO_2; clear HB; have HO_0 := n0_; have HO_1 := n1_; have HO_2 := n2_; have HB := n3_; clear n0_ n1_ n2_ n3_; (try clear hb); (try clear hb2); (try clear hk); (try clear hi)))
        repeat (go_quiet (first | (go_at_call 26; (with_reducible refine (emendationlaw03_awake.calls kj3  t105 _ A17.out).mono ?_); rintro e w18 ⟨rfl, hb⟩; have n0_ := Aside0.mk (Kd.V_below (by (with_reducible repeat (first | apply Kd.V_alloc | apply Kd.V_drewN | apply Kd.V_drew)); exact HO_0.out) hb); have n1_ := Aside0.mk (Kd.V_below (by (with_reducible repeat (first | apply Kd.V_alloc | apply Kd.V_drewN | apply Kd.V_drew)); exact HO_1.out) hb); have n2_ := Aside0.mk (Kd.V_below (by (with_reducible repeat (first | apply Kd.V_alloc | apply Kd.V_drewN | apply Kd.V_drew)); exact HO_2.out) hb); have n3_ := Aside0.mk (below_step (by repeat (first | (with_reducible first | exact HB.out | apply below_alloc | apply pw_below_drewN | apply below_drew1) | exact HB.out)) hb); clear HO_0; clear HO_1; clear HO_2; clear HB; have HO_0 := n0_; have HO_1 := n1_; have HO_2 := n2_; have HB := n3_; clear n0_ n1_ n2_ n3_; (try clear hb); (try clear hb2); (try clear hk); (try clear hi))); try go_wp2_with (first | (go_at_call 26; (with_reducible refine (emendationlaw03_awake.calls kj3  t105 _ A17.out).mono ?_); rintro e w18 ⟨rfl, hb⟩; have n0_ := Aside0.mk (Kd.V_below (by (with_reducible repeat (first | apply Kd.V_alloc | apply Kd.V_drewN | apply Kd.V_drew)); exact HO_0.out) hb); have n1_ := Aside0.mk (Kd.V_below (by (with_reducible repeat (first | apply Kd.V_alloc | apply Kd.V_drewN | apply Kd.V_drew)); exact HO_1.out) hb); have n2_ := Aside0.mk (Kd.V_below (by (with_reducible repeat (first | apply Kd.V_alloc | apply Kd.V_drewN | apply Kd.V_drew)); exact HO_2.out) hb); have n3_ := Aside0.mk (below_step (by repeat (first | (with_reducible first | exact HB.out | apply below_alloc | apply pw_below_drewN | apply below_drew1) | exact HB.out)) hb); clear HO_0; clear HO_1; clear HO_2; clear HB; have HO_0 := n0_; have HO_1 := n1_; have HO_2 := n2_; have HB := n3_; clear n0_ n1_ n2_ n3_; (try clear hb); (try clear hb2); (try clear hk); (try clear hi))))
        go_ret
        exact ⟨by first | rfl | (simp [errW_none, errW_some] <;> rfl) | (simp [*, errW_none, errW_some] <;> rfl), by repeat (first | (with_reducible first | exact HB.out | apply below_alloc | apply pw_below_drewN | apply below_drew1) | exact HB.out)⟩
      · replace c16 := Bool.eq_false_iff.mpr c16
        subst c16
        have H1 : ((token_Ids.f kj3 (([l0, l1, l2] : List (List ByteArray)))).bind fun t109 => (if (t109.length : Int) = 3 then (if 0 < (t109.length : Int) then (if ((rd_L3 t109 0).length : Int) = (l0.length : Int) then (if 1 < (t109.length : Int) then (if ((rd_L3 t109 1).length : Int) = (l1.length : Int) then (if 2 < (t109.length : Int) then (if ((rd_L3 t109 2).length : Int) = (l2.length : Int) then ((token_Ids.f kj3 ([] : List (List ByteArray))).bind fun t115 => (emendationlaw03_TokenSame.j1 kj3 l0 l1 l2 t109 ((t115.length : Int) != 0))) else (emendationlaw03_TokenSame.j1 kj3 l0 l1 l2 t109 true)) else (none)) else (emendationlaw03_TokenSame.j1 kj3 l0 l1 l2 t109 true)) else (none)) else (emendationlaw03_TokenSame.j1 kj3 l0 l1 l2 t109 true)) else (none)) else (emendationlaw03_TokenSame.j1 kj3 l0 l1 l2 t109 true))) = some r := by rw [if_neg (show ¬ (false = true) by decide)] at H; exact H
        clear H
        have H := H1
        clear H1
        obtain ⟨y106, hy106⟩ : ∃ y_ : List (List ByteArray), y_ = (([l0, l1, l2] : List (List ByteArray))) := ⟨_, rfl⟩
        replace H : ((token_Ids.f kj3 y106).bind fun t109 => (if (t109.length : Int) = 3 then (if 0 < (t109.length : Int) then (if ((rd_L3 t109 0).length : Int) = (l0.length : Int) then (if 1 < (t109.length : Int) then (if ((rd_L3 t109 1).length : Int) = (l1.length : Int) then (if 2 < (t109.length : Int) then (if ((rd_L3 t109 2).length : Int) = (l2.length : Int) then ((token_Ids.f kj3 ([] : List (List ByteArray))).bind fun t115 => (emendationlaw03_TokenSame.j1 kj3 l0 l1 l2 t109 ((t115.length : Int) != 0))) else (emendationlaw03_TokenSame.j1 kj3 l0 l1 l2 t109 true)) else (none)) else (emendationlaw03_TokenSame.j1 kj3 l0 l1 l2 t109 true)) else (none)) else (emendationlaw03_TokenSame.j1 kj3 l0 l1 l2 t109 true)) else (none)) else (emendationlaw03_TokenSame.j1 kj3 l0 l1 l2 t109 true))) = some r := by first | (rw [hy106]; with_reducible exact H) | (have H2_ := (Option.bind_some _ _).symm.trans H; rw [hy106]; with_reducible exact H2_) | (have H2_ := (Option.bind_some _ _).symm.trans H; with_reducible exact H2_) | with_reducible exact H | (rw [hy106]; exact H) | exact H
        have Ny106 := Aside0.mk hy106
        clear hy106
        replace H := Option.bind_eq_some_iff.mp H
        obtain ⟨t109, A190, H⟩ := H
        replace H : (if (t109.length : Int) = 3 then (if 0 < (t109.length : Int) then (if ((rd_L3 t109 0).length : Int) = (l0.length : Int) then (if 1 < (t109.length : Int) then (if ((rd_L3 t109 1).length : Int) = (l1.length : Int) then (if 2 < (t109.length : Int) then (if ((rd_L3 t109 2).length : Int) = (l2.length : Int) then ((token_Ids.f kj3 ([] : List (List ByteArray))).bind fun t115 => (emendationlaw03_TokenSame.j1 kj3 l0 l1 l2 t109 ((t115.length : Int) != 0))) else (emendationlaw03_TokenSame.j1 kj3 l0 l1 l2 t109 true)) else (none)) else (emendationlaw03_TokenSame.j1 kj3 l0 l1 l2 t109 true)) else (none)) else (emendationlaw03_TokenSame.j1 kj3 l0 l1 l2 t109 true)) else (none)) else (emendationlaw03_TokenSame.j1 kj3 l0 l1 l2 t109 true)) = some r := H
        have A19 := Aside0.mk A190
        clear A190
        have HC20 := Aside0.mk H
        clear H
        go_upto_region 4 with (first | ((with_reducible refine gate_dst (N := 32) rfl ?_); (try (refine gate_guard (by rfl) ?_; dsimp only)); refine Kd.N_lit (Kd.slice 9 Kd.string) _ 24 ?hg (N' := 32) ?hd (xs := ([l0, l1, l2] : List (List ByteArray))) (inner := [.slice A0 l0.length c0, .slice A1 l1.length c1, .slice A2 l2.length c2]) (ok := (fun k_ => ((P0_ k_ ∨ P1_ k_ ∨ P2_ k_) ∨ w.heap.size ≤ k_))) (okp := (fun k_ => ((P0_ k_ ∨ P1_ k_ ∨ P2_ k_) ∨ w.heap.size ≤ k_))) ?hr ?hp (fun _ hk => hk) ((show ∀ k_, wc.heap.size ≤ k_ → (fun k_ => ((P0_ k_ ∨ P1_ k_ ∨ P2_ k_) ∨ w.heap.size ≤ k_)) k_ from fun k_ hk => (.inr (Nat.le_trans (below_size (by repeat (first | (with_reducible first | exact HB.out | apply below_alloc | apply pw_below_drewN | apply below_drew1) | exact HB.out))) hk))) _ (Nat.le_refl _)) (Below.refl _ _) (Nat.le_refl _) (by simp) ?_; (case hd => rfl); (case hg => rfl); (case hr => first | (go_simp; done) | (go_simp; rfl)); (case hp => exact (Reps.one (show Kd.FK (Kd.slice 9 Kd.string) _ _ l0 [.slice A0 l0.length c0] from (Kd.FK_slice_mk (Kd.V_reads' (Kd.V_mono (ok' := (fun k_ => ((P0_ k_ ∨ P1_ k_ ∨ P2_ k_) ∨ w.heap.size ≤ k_))) (HO_0.out) (fun k_ hk => hk))).2.1 (Kd.V_F (Kd.V_mono (ok' := (fun k_ => ((P0_ k_ ∨ P1_ k_ ∨ P2_ k_) ∨ w.heap.size ≤ k_))) (HO_0.out) (fun k_ hk => hk))))) (Reps.one (show Kd.FK (Kd.slice 9 Kd.string) _ _ l1 [.slice A1 l1.length c1] from (Kd.FK_slice_mk (Kd.V_reads' (Kd.V_mono (ok' := (fun k_ => ((P0_ k_ ∨ P1_ k_ ∨ P2_ k_) ∨ w.heap.size ≤ k_))) (HO_1.out) (fun k_ hk => hk))).2.1 (Kd.V_F (Kd.V_mono (ok' := (fun k_ => ((P0_ k_ ∨ P1_ k_ ∨ P2_ k_) ∨ w.heap.size ≤ k_))) (HO_1.out) (fun k_ hk => hk))))) (Reps.one (show Kd.FK (Kd.slice 9 Kd.string) _ _ l2 [.slice A2 l2.length c2] from (Kd.FK_slice_mk (Kd.V_reads' (Kd.V_mono (ok' := (fun k_ => ((P0_ k_ ∨ P1_ k_ ∨ P2_ k_) ∨ w.heap.size ≤ k_))) (HO_2.out) (fun k_ hk => hk))).2.1 (Kd.V_F (Kd.V_mono (ok' := (fun k_ => ((P0_ k_ ∨ P1_ k_ ∨ P2_ k_) ∨ w.heap.size ≤ k_))) (HO_2.out) (fun k_ hk => hk))))) (Reps.none _ _))))); intro v107 w21 ho22 hb hg_ hnew_; clear hg_ hnew_; (first | rw [← Ny106.out] at ho22 | (simp only [Int.reduceToNat] at ho22; rw [← Ny106.out] at ho22)); have n0_ := Aside0.mk (Kd.V_elder' (by (with_reducible repeat (first | apply Kd.V_alloc | apply Kd.V_drewN | apply Kd.V_drew)); exact HO_0.out) (Kd.N_base ho22) hb); have n1_ := Aside0.mk (Kd.V_elder' (by (with_reducible repeat (first | apply Kd.V_alloc | apply Kd.V_drewN | apply Kd.V_drew)); exact HO_1.out) (Kd.N_base ho22) hb); have n2_ := Aside0.mk (Kd.V_elder' (by (with_reducible repeat (first | apply Kd.V_alloc | apply Kd.V_drewN | apply Kd.V_drew)); exact HO_2.out) (Kd.N_base ho22) hb); have n3_ := Aside0.mk (Kd.N_lower ho22 (below_size (by repeat (first | (with_reducible first | exact HB.out | apply below_alloc | apply pw_below_drewN | apply below_drew1) | exact HB.out)))); have n4_ := Aside0.mk (below_step (by repeat (first | (with_reducible first | exact HB.out | apply below_alloc | apply pw_below_drewN | apply below_drew1) | exact HB.out)) hb); clear HO_0; clear HO_1; clear HO_2; clear HB; have HO_0 := n0_; have HO_1 := n1_; have HO_2 := n2_; have HO108 := n3_; have HB := n4_; clear n0_ n1_ n2_ n3_ n4_; clear hb ho22; obtain ⟨Ao23, co23, eo23⟩ := Kd.N_slice HO108.out; subst eo23) | (go_at_call 60; (with_reducible refine (token_Ids.calls kj3 _ _ y106 t109 _ ?side1 ?side2 A19.out).mono ?_); (case side1 => repeat (first | exact (Kd.N_reads' HO108.out).2.2 | (with_reducible refine Kd.C_alloc ?_ _) | (with_reducible refine Kd.C_drewN ?_ _) | (with_reducible refine Kd.C_drew ?_))); (case side2 => exact (Kd.N_reads' HO108.out).2.1); rintro e w24 ⟨v110, rfl, ho0, hb⟩; have n0_ := Aside0.mk (Kd.V_elder' (by (with_reducible repeat (first | apply Kd.V_alloc | apply Kd.V_drewN | apply Kd.V_drew)); exact HO_0.out) (Kd.N_base (Kd.S_N ho0)) hb); have n1_ := Aside0.mk (Kd.V_elder' (by (with_reducible repeat (first | apply Kd.V_alloc | apply Kd.V_drewN | apply Kd.V_drew)); exact HO_1.out) (Kd.N_base (Kd.S_N ho0)) hb); have n2_ := Aside0.mk (Kd.V_elder' (by (with_reducible repeat (first | apply Kd.V_alloc | apply Kd.V_drewN | apply Kd.V_drew)); exact HO_2.out) (Kd.N_base (Kd.S_N ho0)) hb); have n3_ := Aside0.mk (Kd.N_elder' (by (with_reducible repeat (first | apply Kd.N_alloc | apply Kd.N_drewN | apply Kd.N_drew)); exact HO108.out) (Kd.N_base (Kd.S_N ho0)) hb); have n4_ := Aside0.mk (Kd.N_lower (Kd.N_mono (ok' := fun k_ => ((P0_ k_ ∨ P1_ k_ ∨ P2_ k_) ∨ w.heap.size ≤ k_) ∧ some k_ ≠ (.slice Ao23 y106.length co23 : Value).ownBlock) (Kd.S_N (Kd.S_bound ho0)) (fun k_ hk_ => ⟨(.inr (Nat.le_trans (below_size (by repeat (first | (with_reducible first | exact HB.out | apply below_alloc | apply pw_below_drewN | apply below_drew1) | exact HB.out))) hk_.2.1)), (Kd.fresh' (Kd.N_lt (by (with_reducible repeat (first | apply Kd.N_alloc | apply Kd.N_drewN | apply Kd.N_drew)); exact HO108.out)) k_ hk_.2.1)⟩)) (below_size (by repeat (first | (with_reducible first | exact HB.out | apply below_alloc | apply pw_below_drewN | apply below_drew1) | exact HB.out)))); have n5_ := Aside0.mk (below_step (by repeat (first | (with_reducible first | exact HB.out | apply below_alloc | apply pw_below_drewN | apply below_drew1) | exact HB.out)) hb); clear HO_0; clear HO_1; clear HO_2; clear HO108; clear HB; have HO_0 := n0_; have HO_1 := n1_; have HO_2 := n2_; have HO108 := n3_; have HO111 := n4_; have HB := n5_; clear n0_ n1_ n2_ n3_ n4_ n5_; (try clear hb); (try clear hb2); (try clear hk); (try clear hi); (try clear ho0)))
        repeat (go_quiet (first | ((with_reducible refine gate_dst (N := 32) rfl ?_); (try (refine gate_guard (by rfl) ?_; dsimp only)); refine Kd.N_lit (Kd.slice 9 Kd.string) _ 24 ?hg (N' := 32) ?hd (xs := ([l0, l1, l2] : List (List ByteArray))) (inner := [.slice A0 l0.length c0, .slice A1 l1.length c1, .slice A2 l2.length c2]) (ok := (fun k_ => ((P0_ k_ ∨ P1_ k_ ∨ P2_ k_) ∨ w.heap.size ≤ k_))) (okp := (fun k_ => ((P0_ k_ ∨ P1_ k_ ∨ P2_ k_) ∨ w.heap.size ≤ k_))) ?hr ?hp (fun _ hk => hk) ((show ∀ k_, wc.heap.size ≤ k_ → (fun k_ => ((P0_ k_ ∨ P1_ k_ ∨ P2_ k_) ∨ w.heap.size ≤ k_)) k_ from fun k_ hk => (.inr (Nat.le_trans (below_size (by repeat (first | (with_reducible first | exact HB.out | apply below_alloc | apply pw_below_drewN | apply below_drew1) | exact HB.out))) hk))) _ (Nat.le_refl _)) (Below.refl _ _) (Nat.le_refl _) (by simp) ?_; (case hd => rfl); (case hg => rfl); (case hr => first | (go_simp; done) | (go_simp; rfl)); (case hp => exact (Reps.one (show Kd.FK (Kd.slice 9 Kd.string) _ _ l0 [.slice A0 l0.length c0] from (Kd.FK_slice_mk (Kd.V_reads' (Kd.V_mono (ok' := (fun k_ => ((P0_ k_ ∨ P1_ k_ ∨ P2_ k_) ∨ w.heap.size ≤ k_))) (HO_0.out) (fun k_ hk => hk))).2.1 (Kd.V_F (Kd.V_mono (ok' := (fun k_ => ((P0_ k_ ∨ P1_ k_ ∨ P2_ k_) ∨ w.heap.size ≤ k_))) (HO_0.out) (fun k_ hk => hk))))) (Reps.one (show Kd.FK (Kd.slice 9 Kd.string) _ _ l1 [.slice A1 l1.length c1] from (Kd.FK_slice_mk (Kd.V_reads' (Kd.V_mono (ok' := (fun k_ => ((P0_ k_ ∨ P1_ k_ ∨ P2_ k_) ∨ w.heap.size ≤ k_))) (HO_1.out) (fun k_ hk => hk))).2.1 (Kd.V_F (Kd.V_mono (ok' := (fun k_ => ((P0_ k_ ∨ P1_ k_ ∨ P2_ k_) ∨ w.heap.size ≤ k_))) (HO_1.out) (fun k_ hk => hk))))) (Reps.one (show Kd.FK (Kd.slice 9 Kd.string) _ _ l2 [.slice A2 l2.length c2] from (Kd.FK_slice_mk (Kd.V_reads' (Kd.V_mono (ok' := (fun k_ => ((P0_ k_ ∨ P1_ k_ ∨ P2_ k_) ∨ w.heap.size ≤ k_))) (HO_2.out) (fun k_ hk => hk))).2.1 (Kd.V_F (Kd.V_mono (ok' := (fun k_ => ((P0_ k_ ∨ P1_ k_ ∨ P2_ k_) ∨ w.heap.size ≤ k_))) (HO_2.out) (fun k_ hk => hk))))) (Reps.none _ _))))); intro v107 w21 ho22 hb hg_ hnew_; clear hg_ hnew_; (first | rw [← Ny106.out] at ho22 | (simp only [Int.reduceToNat] at ho22; rw [← Ny106.out] at ho22)); have n0_ := Aside0.mk (Kd.V_elder' (by (with_reducible repeat (first | apply Kd.V_alloc | apply Kd.V_drewN | apply Kd.V_drew)); exact HO_0.out) (Kd.N_base ho22) hb); have n1_ := Aside0.mk (Kd.V_elder' (by (with_reducible repeat (first | apply Kd.V_alloc | apply Kd.V_drewN | apply Kd.V_drew)); exact HO_1.out) (Kd.N_base ho22) hb); have n2_ := Aside0.mk (Kd.V_elder' (by (with_reducible repeat (first | apply Kd.V_alloc | apply Kd.V_drewN | apply Kd.V_drew)); exact HO_2.out) (Kd.N_base ho22) hb); have n3_ := Aside0.mk (Kd.N_lower ho22 (below_size (by repeat (first | (with_reducible first | exact HB.out | apply below_alloc | apply pw_below_drewN | apply below_drew1) | exact HB.out)))); have n4_ := Aside0.mk (below_step (by repeat (first | (with_reducible first | exact HB.out | apply below_alloc | apply pw_below_drewN | apply below_drew1) | exact HB.out)) hb); clear HO_0; clear HO_1; clear HO_2; clear HB; have HO_0 := n0_; have HO_1 := n1_; have HO_2 := n2_; have HO108 := n3_; have HB := n4_; clear n0_ n1_ n2_ n3_ n4_; clear hb ho22; obtain ⟨Ao23, co23, eo23⟩ := Kd.N_slice HO108.out; subst eo23) | (go_at_call 60; (with_reducible refine (token_Ids.calls kj3 _ _ y106 t109 _ ?side1 ?side2 A19.out).mono ?_); (case side1 => repeat (first | exact (Kd.N_reads' HO108.out).2.2 | (with_reducible refine Kd.C_alloc ?_ _) | (with_reducible refine Kd.C_drewN ?_ _) | (with_reducible refine Kd.C_drew ?_))); (case side2 => exact (Kd.N_reads' HO108.out).2.1); rintro e w24 ⟨v110, rfl, ho0, hb⟩; have n0_ := Aside0.mk (Kd.V_elder' (by (with_reducible repeat (first | apply Kd.V_alloc | apply Kd.V_drewN | apply Kd.V_drew)); exact HO_0.out) (Kd.N_base (Kd.S_N ho0)) hb); have n1_ := Aside0.mk (Kd.V_elder' (by (with_reducible repeat (first | apply Kd.V_alloc | apply Kd.V_drewN | apply Kd.V_drew)); exact HO_1.out) (Kd.N_base (Kd.S_N ho0)) hb); have n2_ := Aside0.mk (Kd.V_elder' (by (with_reducible repeat (first | apply Kd.V_alloc | apply Kd.V_drewN | apply Kd.V_drew)); exact HO_2.out) (Kd.N_base (Kd.S_N ho0)) hb); have n3_ := Aside0.mk (Kd.N_elder' (by (with_reducible repeat (first | apply Kd.N_alloc | apply Kd.N_drewN | apply Kd.N_drew)); exact HO108.out) (Kd.N_base (Kd.S_N ho0)) hb); have n4_ := Aside0.mk (Kd.N_lower (Kd.N_mono (ok' := fun k_ => ((P0_ k_ ∨ P1_ k_ ∨ P2_ k_) ∨ w.heap.size ≤ k_) ∧ some k_ ≠ (.slice Ao23 y106.length co23 : Value).ownBlock) (Kd.S_N (Kd.S_bound ho0)) (fun k_ hk_ => ⟨(.inr (Nat.le_trans (below_size (by repeat (first | (with_reducible first | exact HB.out | apply below_alloc | apply pw_below_drewN | apply below_drew1) | exact HB.out))) hk_.2.1)), (Kd.fresh' (Kd.N_lt (by (with_reducible repeat (first | apply Kd.N_alloc | apply Kd.N_drewN | apply Kd.N_drew)); exact HO108.out)) k_ hk_.2.1)⟩)) (below_size (by repeat (first | (with_reducible first | exact HB.out | apply below_alloc | apply pw_below_drewN | apply below_drew1) | exact HB.out)))); have n5_ := Aside0.mk (below_step (by repeat (first | (with_reducible first | exact HB.out | apply below_alloc | apply pw_below_drewN | apply below_drew1) | exact HB.out)) hb); clear HO_0; clear HO_1; clear HO_2; clear HO108; clear HB; have HO_0 := n0_; have HO_1 := n1_; have HO_2 := n2_; have HO108 := n3_; have HO111 := n4_; have HB := n5_; clear n0_ n1_ n2_ n3_ n4_ n5_; (try clear hb); (try clear hb2); (try clear hk); (try clear hi); (try clear ho0))); go_upto_region 4 with (first | ((with_reducible refine gate_dst (N := 32) rfl ?_); (try (refine gate_guard (by rfl) ?_; dsimp only)); refine Kd.N_lit (Kd.slice 9 Kd.string) _ 24 ?hg (N' := 32) ?hd (xs := ([l0, l1, l2] : List (List ByteArray))) (inner := [.slice A0 l0.length c0, .slice A1 l1.length c1, .slice A2 l2.length c2]) (ok := (fun k_ => ((P0_ k_ ∨ P1_ k_ ∨ P2_ k_) ∨ w.heap.size ≤ k_))) (okp := (fun k_ => ((P0_ k_ ∨ P1_ k_ ∨ P2_ k_) ∨ w.heap.size ≤ k_))) ?hr ?hp (fun _ hk => hk) ((show ∀ k_, wc.heap.size ≤ k_ → (fun k_ => ((P0_ k_ ∨ P1_ k_ ∨ P2_ k_) ∨ w.heap.size ≤ k_)) k_ from fun k_ hk => (.inr (Nat.le_trans (below_size (by repeat (first | (with_reducible first | exact HB.out | apply below_alloc | apply pw_below_drewN | apply below_drew1) | exact HB.out))) hk))) _ (Nat.le_refl _)) (Below.refl _ _) (Nat.le_refl _) (by simp) ?_; (case hd => rfl); (case hg => rfl); (case hr => first | (go_simp; done) | (go_simp; rfl)); (case hp => exact (Reps.one (show Kd.FK (Kd.slice 9 Kd.string) _ _ l0 [.slice A0 l0.length c0] from (Kd.FK_slice_mk (Kd.V_reads' (Kd.V_mono (ok' := (fun k_ => ((P0_ k_ ∨ P1_ k_ ∨ P2_ k_) ∨ w.heap.size ≤ k_))) (HO_0.out) (fun k_ hk => hk))).2.1 (Kd.V_F (Kd.V_mono (ok' := (fun k_ => ((P0_ k_ ∨ P1_ k_ ∨ P2_ k_) ∨ w.heap.size ≤ k_))) (HO_0.out) (fun k_ hk => hk))))) (Reps.one (show Kd.FK (Kd.slice 9 Kd.string) _ _ l1 [.slice A1 l1.length c1] from (Kd.FK_slice_mk (Kd.V_reads' (Kd.V_mono (ok' := (fun k_ => ((P0_ k_ ∨ P1_ k_ ∨ P2_ k_) ∨ w.heap.size ≤ k_))) (HO_1.out) (fun k_ hk => hk))).2.1 (Kd.V_F (Kd.V_mono (ok' := (fun k_ => ((P0_ k_ ∨ P1_ k_ ∨ P2_ k_) ∨ w.heap.size ≤ k_))) (HO_1.out) (fun k_ hk => hk))))) (Reps.one (show Kd.FK (Kd.slice 9 Kd.string) _ _ l2 [.slice A2 l2.length c2] from (Kd.FK_slice_mk (Kd.V_reads' (Kd.V_mono (ok' := (fun k_ => ((P0_ k_ ∨ P1_ k_ ∨ P2_ k_) ∨ w.heap.size ≤ k_))) (HO_2.out) (fun k_ hk => hk))).2.1 (Kd.V_F (Kd.V_mono (ok' := (fun k_ => ((P0_ k_ ∨ P1_ k_ ∨ P2_ k_) ∨ w.heap.size ≤ k_))) (HO_2.out) (fun k_ hk => hk))))) (Reps.none _ _))))); intro v107 w21 ho22 hb hg_ hnew_; clear hg_ hnew_; (first | rw [← Ny106.out] at ho22 | (simp only [Int.reduceToNat] at ho22; rw [← Ny106.out] at ho22)); have n0_ := Aside0.mk (Kd.V_elder' (by (with_reducible repeat (first | apply Kd.V_alloc | apply Kd.V_drewN | apply Kd.V_drew)); exact HO_0.out) (Kd.N_base ho22) hb); have n1_ := Aside0.mk (Kd.V_elder' (by (with_reducible repeat (first | apply Kd.V_alloc | apply Kd.V_drewN | apply Kd.V_drew)); exact HO_1.out) (Kd.N_base ho22) hb); have n2_ := Aside0.mk (Kd.V_elder' (by (with_reducible repeat (first | apply Kd.V_alloc | apply Kd.V_drewN | apply Kd.V_drew)); exact HO_2.out) (Kd.N_base ho22) hb); have n3_ := Aside0.mk (Kd.N_lower ho22 (below_size (by repeat (first | (with_reducible first | exact HB.out | apply below_alloc | apply pw_below_drewN | apply below_drew1) | exact HB.out)))); have n4_ := Aside0.mk (below_step (by repeat (first | (with_reducible first | exact HB.out | apply below_alloc | apply pw_below_drewN | apply below_drew1) | exact HB.out)) hb); clear HO_0; clear HO_1; clear HO_2; clear HB; have HO_0 := n0_; have HO_1 := n1_; have HO_2 := n2_; have HO108 := n3_; have HB := n4_; clear n0_ n1_ n2_ n3_ n4_; clear hb ho22; obtain ⟨Ao23, co23, eo23⟩ := Kd.N_slice HO108.out; subst eo23) | (go_at_call 60; (with_reducible refine (token_Ids.calls kj3 _ _ y106 t109 _ ?side1 ?side2 A19.out).mono ?_); (case side1 => repeat (first | exact (Kd.N_reads' HO108.out).2.2 | (with_reducible refine Kd.C_alloc ?_ _) | (with_reducible refine Kd.C_drewN ?_ _) | (with_reducible refine Kd.C_drew ?_))); (case side2 => exact (Kd.N_reads' HO108.out).2.1); rintro e w24 ⟨v110, rfl, ho0, hb⟩; have n0_ := Aside0.mk (Kd.V_elder' (by (with_reducible repeat (first | apply Kd.V_alloc | apply Kd.V_drewN | apply Kd.V_drew)); exact HO_0.out) (Kd.N_base (Kd.S_N ho0)) hb); have n1_ := Aside0.mk (Kd.V_elder' (by (with_reducible repeat (first | apply Kd.V_alloc | apply Kd.V_drewN | apply Kd.V_drew)); exact HO_1.out) (Kd.N_base (Kd.S_N ho0)) hb); have n2_ := Aside0.mk (Kd.V_elder' (by (with_reducible repeat (first | apply Kd.V_alloc | apply Kd.V_drewN | apply Kd.V_drew)); exact HO_2.out) (Kd.N_base (Kd.S_N ho0)) hb); have n3_ := Aside0.mk (Kd.N_elder' (by (with_reducible repeat (first | apply Kd.N_alloc | apply Kd.N_drewN | apply Kd.N_drew)); exact HO108.out) (Kd.N_base (Kd.S_N ho0)) hb); have n4_ := Aside0.mk (Kd.N_lower (Kd.N_mono (ok' := fun k_ => ((P0_ k_ ∨ P1_ k_ ∨ P2_ k_) ∨ w.heap.size ≤ k_) ∧ some k_ ≠ (.slice Ao23 y106.length co23 : Value).ownBlock) (Kd.S_N (Kd.S_bound ho0)) (fun k_ hk_ => ⟨(.inr (Nat.le_trans (below_size (by repeat (first | (with_reducible first | exact HB.out | apply below_alloc | apply pw_below_drewN | apply below_drew1) | exact HB.out))) hk_.2.1)), (Kd.fresh' (Kd.N_lt (by (with_reducible repeat (first | apply Kd.N_alloc | apply Kd.N_drewN | apply Kd.N_drew)); exact HO108.out)) k_ hk_.2.1)⟩)) (below_size (by repeat (first | (with_reducible first | exact HB.out | apply below_alloc | apply pw_below_drewN | apply below_drew1) | exact HB.out)))); have n5_ := Aside0.mk (below_step (by repeat (first | (with_reducible first | exact HB.out | apply below_alloc | apply pw_below_drewN | apply below_drew1) | exact HB.out)) hb); clear HO_0; clear HO_1; clear HO_2; clear HO108; clear HB; have HO_0 := n0_; have HO_1 := n1_; have HO_2 := n2_; have HO108 := n3_; have HO111 := n4_; have HB := n5_; clear n0_ n1_ n2_ n3_ n4_ n5_; (try clear hb); (try clear hb2); (try clear hk); (try clear hi); (try clear ho0))))
        (try simp only [Act.put, List.setIfInBounds_toArray, List.set_cons_zero, List.set_cons_succ])
        go_cut [68] (fun v68 wc => ∃ (kq : Nat) (x68_19 : Bool), v68 = .bool x68_19 ∧ Aside0 (emendationlaw03_TokenSame.j1 kq l0 l1 l2 t109 x68_19 = some r) ∧ Aside0 (kq ≤ kj3) ∧ Aside0 (Kd.V Kd.string 9 wc w.heap.size (fun k_ => ((P0_ k_ ∨ P1_ k_ ∨ P2_ k_) ∨ w.heap.size ≤ k_) ∧ some k_ ≠ (v110 : Value).ownBlock) (.slice A0 l0.length c0) l0) ∧ Aside0 (Kd.V Kd.string 9 wc w.heap.size (fun k_ => ((P0_ k_ ∨ P1_ k_ ∨ P2_ k_) ∨ w.heap.size ≤ k_) ∧ some k_ ≠ (v110 : Value).ownBlock) (.slice A1 l1.length c1) l1) ∧ Aside0 (Kd.V Kd.string 9 wc w.heap.size (fun k_ => ((P0_ k_ ∨ P1_ k_ ∨ P2_ k_) ∨ w.heap.size ≤ k_) ∧ some k_ ≠ (v110 : Value).ownBlock) (.slice A2 l2.length c2) l2) ∧ Aside0 (Kd.N (Kd.slice 3 (Kd.int .i64)) 29 wc w.heap.size (fun k_ => ((P0_ k_ ∨ P1_ k_ ∨ P2_ k_) ∨ w.heap.size ≤ k_)) v110 t109) ∧ Aside0 (Below w.heap.size w wc))
        case first =>
          have H := HC20.out
          clear HC20
          by_cases c25 : (t109.length : Int) = 3
          · rw [if_pos c25] at H
            have c25b0 : ((t109.length : Int) == 3) = true := beq_iff_eq.mpr c25
            have c25b1 : ((t109.length : Int) != 3) = false := bne_eq_false_iff_eq.mpr c25
            clear c25
            (first | rw [c25b0] | (simp only [i64_w, i32_w]; rw [c25b0]) | skip)
            by_cases c26 : 0 < (t109.length : Int)
            · rw [if_pos c26] at H
              have c26b0 : decide (0 < (t109.length : Int)) = true := decide_eq_true c26
              have c26b1 : decide (0 < t109.length) = true := decide_eq_true (by omega)
              clear c26
              by_cases c27 : ((rd_L3 t109 0).length : Int) = (l0.length : Int)
              · rw [if_pos c27] at H
                have c27b0 : (((rd_L3 t109 0).length : Int) == (l0.length : Int)) = true := beq_iff_eq.mpr c27
                have c27b1 : (((rd_L3 t109 0).length : Int) != (l0.length : Int)) = false := bne_eq_false_iff_eq.mpr c27
                have c27b2 : ((rd_L3 t109 0).length == l0.length) = true := by first | simpa using c27 | (simp at c27 ⊢; omega)
                clear c27
                by_cases c28 : 1 < (t109.length : Int)
                · rw [if_pos c28] at H
                  have c28b0 : decide (1 < (t109.length : Int)) = true := decide_eq_true c28
                  have c28b1 : decide (1 < t109.length) = true := decide_eq_true (by omega)
                  clear c28
                  by_cases c29 : ((rd_L3 t109 1).length : Int) = (l1.length : Int)
                  · rw [if_pos c29] at H
                    have c29b0 : (((rd_L3 t109 1).length : Int) == (l1.length : Int)) = true := beq_iff_eq.mpr c29
                    have c29b1 : (((rd_L3 t109 1).length : Int) != (l1.length : Int)) = false := bne_eq_false_iff_eq.mpr c29
                    have c29b2 : ((rd_L3 t109 1).length == l1.length) = true := by first | simpa using c29 | (simp at c29 ⊢; omega)
                    clear c29
                    by_cases c30 : 2 < (t109.length : Int)
                    · rw [if_pos c30] at H
                      have c30b0 : decide (2 < (t109.length : Int)) = true := decide_eq_true c30
                      have c30b1 : decide (2 < t109.length) = true := decide_eq_true (by omega)
                      clear c30
                      by_cases c31 : ((rd_L3 t109 2).length : Int) = (l2.length : Int)
                      · rw [if_pos c31] at H
                        have c31b0 : (((rd_L3 t109 2).length : Int) == (l2.length : Int)) = true := beq_iff_eq.mpr c31
                        have c31b1 : (((rd_L3 t109 2).length : Int) != (l2.length : Int)) = false := bne_eq_false_iff_eq.mpr c31
                        have c31b2 : ((rd_L3 t109 2).length == l2.length) = true := by first | simpa using c31 | (simp at c31 ⊢; omega)
                        clear c31
                        replace H := Option.bind_eq_some_iff.mp H
                        obtain ⟨t115, A320, H⟩ := H
                        replace H : (emendationlaw03_TokenSame.j1 kj3 l0 l1 l2 t109 ((t115.length : Int) != 0)) = some r := H
                        have A32 := Aside0.mk A320
                        clear A320
                        have H' := Aside0.mk H
                        clear H
                        obtain ⟨Ao33, co33, eo33⟩ := Kd.N_slice HO111.out
                        subst eo33
                        have p112 : 0 ≤ (0 : Int) := (by omega)
                        have q112 : 0 < (t109.length : Int) := of_decide_eq_true (by first | (with_reducible assumption) | assumption)
                        obtain ⟨ad112, A112_0, c112_0, e112, hx112_0, hl112_0, hi112_0⟩ := at_L3 (Kd.N_reads' HO111.out).2.2 0 p112 q112
                        cases e112
                        obtain ⟨ce112, hce112, hMe112, hcc112⟩ := Kd.N_get HO111.out [] 0 p112 (by first | exact q112 | exact of_decide_eq_true (by first | (with_reducible assumption) | assumption) | (have e_ := (Kd.N_reads' HO111.out).1; omega))
                        obtain ⟨ua112_0, uc112_0, rfl, ul112_0, ge112_0⟩ := Kd.FK_slice_open hMe112
                        have hv112_0 := hcc112 0 _ rfl
                        rw [Nat.add_zero, show ((Kd.slice 3 (Kd.int .i64))).sz = 1 from rfl, Nat.mul_one] at hv112_0
                        replace hv112_0 := Option.some.inj (hv112_0.symm.trans hx112_0)
                        injection hv112_0 with hva_ hvn_ hvc_
                        rw [hva_] at ge112_0
                        rw [hvc_] at ul112_0
                        have HL112_0 := Aside0.mk (show Kd.V (Kd.int .i64) 3 _ w.heap.size _ _ (rd_L3 t109 0) from Kd.V_mk ul112_0 ge112_0)
                        clear hva_ hvn_ hvc_ ge112_0 ul112_0
                        clear hcc112 hce112
                        have qi112 : (0 < t109.length) = True := eq_true (by omega)
                        (try rw [show ((0 : Int)).toNat = 0 from rfl] at hx112_0)
                        (try rw [Addr.add_zero'] at hx112_0)
                        have HR112_0 := Aside0.mk hi112_0
                        have HC112_0 := Aside0.mk hl112_0
                        clear hi112_0 hl112_0
                        replace p112 := eq_true p112
                        replace q112 := eq_true q112
                        have p113 : 0 ≤ (1 : Int) := (by omega)
                        have q113 : 1 < (t109.length : Int) := of_decide_eq_true (by first | (with_reducible assumption) | assumption)
                        obtain ⟨ad113, A113_0, c113_0, e113, hx113_0, hl113_0, hi113_0⟩ := at_L3 (Kd.N_reads' HO111.out).2.2 1 p113 q113
                        obtain rfl : ad112 = ad113 := (by injection e113)
                        obtain ⟨ce113, hce113, hMe113, hcc113⟩ := Kd.N_get HO111.out [] 1 p113 (by first | exact q113 | exact of_decide_eq_true (by first | (with_reducible assumption) | assumption) | (have e_ := (Kd.N_reads' HO111.out).1; omega))
                        obtain ⟨ua113_0, uc113_0, rfl, ul113_0, ge113_0⟩ := Kd.FK_slice_open hMe113
                        have hv113_0 := hcc113 0 _ rfl
                        rw [Nat.add_zero, show ((Kd.slice 3 (Kd.int .i64))).sz = 1 from rfl, Nat.mul_one] at hv113_0
                        replace hv113_0 := Option.some.inj (hv113_0.symm.trans hx113_0)
                        injection hv113_0 with hva_ hvn_ hvc_
                        rw [hva_] at ge113_0
                        rw [hvc_] at ul113_0
                        have HL113_0 := Aside0.mk (show Kd.V (Kd.int .i64) 3 _ w.heap.size _ _ (rd_L3 t109 1) from Kd.V_mk ul113_0 ge113_0)
                        clear hva_ hvn_ hvc_ ge113_0 ul113_0
                        clear hcc113 hce113
                        (try simp only [show (1 : Int).toNat = 1 from rfl, Nat.reduceMul, Nat.reduceEqDiff, Go.Addr.add, ↓reduceIte] at hx113_0)
                        have qi113 : (1 < t109.length) = True := eq_true (by omega)
                        (try rw [show ((1 : Int)).toNat = 1 from rfl] at hx113_0)
                        have HR113_0 := Aside0.mk hi113_0
                        have HC113_0 := Aside0.mk hl113_0
                        clear hi113_0 hl113_0
                        replace p113 := eq_true p113
                        replace q113 := eq_true q113
                        have p114 : 0 ≤ (2 : Int) := (by omega)
                        have q114 : 2 < (t109.length : Int) := of_decide_eq_true (by first | (with_reducible assumption) | assumption)
                        obtain ⟨ad114, A114_0, c114_0, e114, hx114_0, hl114_0, hi114_0⟩ := at_L3 (Kd.N_reads' HO111.out).2.2 2 p114 q114
                        obtain rfl : ad112 = ad114 := (by injection e114)
                        obtain ⟨ce114, hce114, hMe114, hcc114⟩ := Kd.N_get HO111.out [] 2 p114 (by first | exact q114 | exact of_decide_eq_true (by first | (with_reducible assumption) | assumption) | (have e_ := (Kd.N_reads' HO111.out).1; omega))
                        obtain ⟨ua114_0, uc114_0, rfl, ul114_0, ge114_0⟩ := Kd.FK_slice_open hMe114
                        have hv114_0 := hcc114 0 _ rfl
                        rw [Nat.add_zero, show ((Kd.slice 3 (Kd.int .i64))).sz = 1 from rfl, Nat.mul_one] at hv114_0
                        replace hv114_0 := Option.some.inj (hv114_0.symm.trans hx114_0)
                        injection hv114_0 with hva_ hvn_ hvc_
                        rw [hva_] at ge114_0
                        rw [hvc_] at ul114_0
                        have HL114_0 := Aside0.mk (show Kd.V (Kd.int .i64) 3 _ w.heap.size _ _ (rd_L3 t109 2) from Kd.V_mk ul114_0 ge114_0)
                        clear hva_ hvn_ hvc_ ge114_0 ul114_0
                        clear hcc114 hce114
                        (try simp only [show (2 : Int).toNat = 2 from rfl, Nat.reduceMul, Nat.reduceEqDiff, Go.Addr.add, ↓reduceIte] at hx114_0)
                        have qi114 : (2 < t109.length) = True := eq_true (by omega)
                        (try rw [show ((2 : Int)).toNat = 2 from rfl] at hx114_0)
                        have HR114_0 := Aside0.mk hi114_0
                        have HC114_0 := Aside0.mk hl114_0
                        clear hi114_0 hl114_0
                        replace p114 := eq_true p114
                        replace q114 := eq_true q114
                        go_wp2_with (first | (go_at_call 60; (refine (token_Ids.calls kj3 _ _ ([] : List (List ByteArray)) t115 _ ?side1 ?side2 A32.out).mono ?_); (case side1 => exact Kd.C_nil _ _); (case side2 => exact Nat.le_refl _); rintro e w34 ⟨v116, rfl, ho0, hb⟩; have n0_ := Aside0.mk (Kd.V_elder' (by (with_reducible repeat (first | apply Kd.V_alloc | apply Kd.V_drewN | apply Kd.V_drew)); exact HO_0.out) (Kd.N_base (Kd.S_N ho0)) hb); have n1_ := Aside0.mk (Kd.V_elder' (by (with_reducible repeat (first | apply Kd.V_alloc | apply Kd.V_drewN | apply Kd.V_drew)); exact HO_1.out) (Kd.N_base (Kd.S_N ho0)) hb); have n2_ := Aside0.mk (Kd.V_elder' (by (with_reducible repeat (first | apply Kd.V_alloc | apply Kd.V_drewN | apply Kd.V_drew)); exact HO_2.out) (Kd.N_base (Kd.S_N ho0)) hb); have n3_ := Aside0.mk (Kd.N_elder' (by (with_reducible repeat (first | apply Kd.N_alloc | apply Kd.N_drewN | apply Kd.N_drew)); exact HO108.out) (Kd.N_base (Kd.S_N ho0)) hb); have n4_ := Aside0.mk (Kd.N_elder' (by (with_reducible repeat (first | apply Kd.N_alloc | apply Kd.N_drewN | apply Kd.N_drew)); exact HO111.out) (Kd.N_base (Kd.S_N ho0)) hb); have n5_ := Aside0.mk (Kd.V_elder' (by (with_reducible repeat (first | apply Kd.V_alloc | apply Kd.V_drewN | apply Kd.V_drew)); exact HL112_0.out) (Kd.N_base (Kd.S_N ho0)) hb); have n6_ := Aside0.mk (Kd.V_elder' (by (with_reducible repeat (first | apply Kd.V_alloc | apply Kd.V_drewN | apply Kd.V_drew)); exact HL113_0.out) (Kd.N_base (Kd.S_N ho0)) hb); have n7_ := Aside0.mk (Kd.V_elder' (by (with_reducible repeat (first | apply Kd.V_alloc | apply Kd.V_drewN | apply Kd.V_drew)); exact HL114_0.out) (Kd.N_base (Kd.S_N ho0)) hb); have n8_ := Aside0.mk (Kd.N_lower (Kd.N_mono (ok' := fun k_ => ((P0_ k_ ∨ P1_ k_ ∨ P2_ k_) ∨ w.heap.size ≤ k_) ∧ some k_ ≠ (.slice Ao23 y106.length co23 : Value).ownBlock ∧ some k_ ≠ (.slice (some ad112) t109.length co33 : Value).ownBlock) (Kd.S_N (Kd.S_bound ho0)) (fun k_ hk_ => ⟨(.inr (Nat.le_trans (below_size (by repeat (first | (with_reducible first | exact HB.out | apply below_alloc | apply pw_below_drewN | apply below_drew1) | exact HB.out))) hk_.2.1)), (Kd.fresh' (Kd.N_lt (by (with_reducible repeat (first | apply Kd.N_alloc | apply Kd.N_drewN | apply Kd.N_drew)); exact HO108.out)) k_ hk_.2.1), (Kd.fresh' (Kd.N_lt (by (with_reducible repeat (first | apply Kd.N_alloc | apply Kd.N_drewN | apply Kd.N_drew)); exact HO111.out)) k_ hk_.2.1)⟩)) (below_size (by repeat (first | (with_reducible first | exact HB.out | apply below_alloc | apply pw_below_drewN | apply below_drew1) | exact HB.out)))); have n9_ := Aside0.mk (Kd.C_below (by repeat (first | (with_reducible exact HR112_0.out) | (with_reducible refine Kd.C_alloc ?_ _) | (with_reducible refine Kd.C_drewN ?_ _) | (with_reducible refine Kd.C_drew ?_) | exact HR112_0.out)) hb); have n10_ := Aside0.mk (Kd.C_below (by repeat (first | (with_reducible exact HR113_0.out) | (with_reducible refine Kd.C_alloc ?_ _) | (with_reducible refine Kd.C_drewN ?_ _) | (with_reducible refine Kd.C_drew ?_) | exact HR113_0.out)) hb); have n11_ := Aside0.mk (Kd.C_below (by repeat (first | (with_reducible exact HR114_0.out) | (with_reducible refine Kd.C_alloc ?_ _) | (with_reducible refine Kd.C_drewN ?_ _) | (with_reducible refine Kd.C_drew ?_) | exact HR114_0.out)) hb); have n12_ := Aside0.mk (below_step (by repeat (first | (with_reducible first | exact HB.out | apply below_alloc | apply pw_below_drewN | apply below_drew1) | exact HB.out)) hb); clear HO_0; clear HO_1; clear HO_2; clear HO108; clear HO111; clear HL112_0; clear HL113_0; clear HL114_0; clear HR112_0; clear HR113_0; clear HR114_0; clear HB; have HO_0 := n0_; have HO_1 := n1_; have HO_2 := n2_; have HO108 := n3_; have HO111 := n4_; have HL112_0 := n5_; have HL113_0 := n6_; have HL114_0 := n7_; have HO117 := n8_; have HR112_0 := n9_; have HR113_0 := n10_; have HR114_0 := n11_; have HB := n12_; clear n0_ n1_ n2_ n3_ n4_ n5_ n6_ n7_ n8_ n9_ n10_ n11_ n12_; (try clear hb); (try clear hb2); (try clear hk); (try clear hi); (try clear ho0); obtain ⟨Ao35, co35, eo35⟩ := Kd.N_slice HO117.out; subst eo35))
                        repeat (go_quiet (first | (go_at_call 60; (refine (token_Ids.calls kj3 _ _ ([] : List (List ByteArray)) t115 _ ?side1 ?side2 A32.out).mono ?_); (case side1 => exact Kd.C_nil _ _); (case side2 => exact Nat.le_refl _); rintro e w34 ⟨v116, rfl, ho0, hb⟩; have n0_ := Aside0.mk (Kd.V_elder' (by (with_reducible repeat (first | apply Kd.V_alloc | apply Kd.V_drewN | apply Kd.V_drew)); exact HO_0.out) (Kd.N_base (Kd.S_N ho0)) hb); have n1_ := Aside0.mk (Kd.V_elder' (by (with_reducible repeat (first | apply Kd.V_alloc | apply Kd.V_drewN | apply Kd.V_drew)); exact HO_1.out) (Kd.N_base (Kd.S_N ho0)) hb); have n2_ := Aside0.mk (Kd.V_elder' (by (with_reducible repeat (first | apply Kd.V_alloc | apply Kd.V_drewN | apply Kd.V_drew)); exact HO_2.out) (Kd.N_base (Kd.S_N ho0)) hb); have n3_ := Aside0.mk (Kd.N_elder' (by (with_reducible repeat (first | apply Kd.N_alloc | apply Kd.N_drewN | apply Kd.N_drew)); exact HO108.out) (Kd.N_base (Kd.S_N ho0)) hb); have n4_ := Aside0.mk (Kd.N_elder' (by (with_reducible repeat (first | apply Kd.N_alloc | apply Kd.N_drewN | apply Kd.N_drew)); exact HO111.out) (Kd.N_base (Kd.S_N ho0)) hb); have n5_ := Aside0.mk (Kd.V_elder' (by (with_reducible repeat (first | apply Kd.V_alloc | apply Kd.V_drewN | apply Kd.V_drew)); exact HL112_0.out) (Kd.N_base (Kd.S_N ho0)) hb); have n6_ := Aside0.mk (Kd.V_elder' (by (with_reducible repeat (first | apply Kd.V_alloc | apply Kd.V_drewN | apply Kd.V_drew)); exact HL113_0.out) (Kd.N_base (Kd.S_N ho0)) hb); have n7_ := Aside0.mk (Kd.V_elder' (by (with_reducible repeat (first | apply Kd.V_alloc | apply Kd.V_drewN | apply Kd.V_drew)); exact HL114_0.out) (Kd.N_base (Kd.S_N ho0)) hb); have n8_ := Aside0.mk (Kd.N_lower (Kd.N_mono (ok' := fun k_ => ((P0_ k_ ∨ P1_ k_ ∨ P2_ k_) ∨ w.heap.size ≤ k_) ∧ some k_ ≠ (.slice Ao23 y106.length co23 : Value).ownBlock ∧ some k_ ≠ (.slice (some ad112) t109.length co33 : Value).ownBlock) (Kd.S_N (Kd.S_bound ho0)) (fun k_ hk_ => ⟨(.inr (Nat.le_trans (below_size (by repeat (first | (with_reducible first | exact HB.out | apply below_alloc | apply pw_below_drewN | apply below_drew1) | exact HB.out))) hk_.2.1)), (Kd.fresh' (Kd.N_lt (by (with_reducible repeat (first | apply Kd.N_alloc | apply Kd.N_drewN | apply Kd.N_drew)); exact HO108.out)) k_ hk_.2.1), (Kd.fresh' (Kd.N_lt (by (with_reducible repeat (first | apply Kd.N_alloc | apply Kd.N_drewN | apply Kd.N_drew)); exact HO111.out)) k_ hk_.2.1)⟩)) (below_size (by repeat (first | (with_reducible first | exact HB.out | apply below_alloc | apply pw_below_drewN | apply below_drew1) | exact HB.out)))); have n9_ := Aside0.mk (Kd.C_below (by repeat (first | (with_reducible exact HR112_0.out) | (with_reducible refine Kd.C_alloc ?_ _) | (with_reducible refine Kd.C_drewN ?_ _) | (with_reducible refine Kd.C_drew ?_) | exact HR112_0.out)) hb); have n10_ := Aside0.mk (Kd.C_below (by repeat (first | (with_reducible exact HR113_0.out) | (with_reducible refine Kd.C_alloc ?_ _) | (with_reducible refine Kd.C_drewN ?_ _) | (with_reducible refine Kd.C_drew ?_) | exact HR113_0.out)) hb); have n11_ := Aside0.mk (Kd.C_below (by repeat (first | (with_reducible exact HR114_0.out) | (with_reducible refine Kd.C_alloc ?_ _) | (with_reducible refine Kd.C_drewN ?_ _) | (with_reducible refine Kd.C_drew ?_) | exact HR114_0.out)) hb); have n12_ := Aside0.mk (below_step (by repeat (first | (with_reducible first | exact HB.out | apply below_alloc | apply pw_below_drewN | apply below_drew1) | exact HB.out)) hb); clear HO_0; clear HO_1; clear HO_2; clear HO108; clear HO111; clear HL112_0; clear HL113_0; clear HL114_0; clear HR112_0; clear HR113_0; clear HR114_0; clear HB; have HO_0 := n0_; have HO_1 := n1_; have HO_2 := n2_; have HO108 := n3_; have HO111 := n4_; have HL112_0 := n5_; have HL113_0 := n6_; have HL114_0 := n7_; have HO117 := n8_; have HR112_0 := n9_; have HR113_0 := n10_; have HR114_0 := n11_; have HB := n12_; clear n0_ n1_ n2_ n3_ n4_ n5_ n6_ n7_ n8_ n9_ n10_ n11_ n12_; (try clear hb); (try clear hb2); (try clear hk); (try clear hi); (try clear ho0); obtain ⟨Ao35, co35, eo35⟩ := Kd.N_slice HO117.out; subst eo35)); try go_wp2_with (first | (go_at_call 60; (refine (token_Ids.calls kj3 _ _ ([] : List (List ByteArray)) t115 _ ?side1 ?side2 A32.out).mono ?_); (case side1 => exact Kd.C_nil _ _); (case side2 => exact Nat.le_refl _); rintro e w34 ⟨v116, rfl, ho0, hb⟩; have n0_ := Aside0.mk (Kd.V_elder' (by (with_reducible repeat (first | apply Kd.V_alloc | apply Kd.V_drewN | apply Kd.V_drew)); exact HO_0.out) (Kd.N_base (Kd.S_N ho0)) hb); have n1_ := Aside0.mk (Kd.V_elder' (by (with_reducible repeat (first | apply Kd.V_alloc | apply Kd.V_drewN | apply Kd.V_drew)); exact HO_1.out) (Kd.N_base (Kd.S_N ho0)) hb); have n2_ := Aside0.mk (Kd.V_elder' (by (with_reducible repeat (first | apply Kd.V_alloc | apply Kd.V_drewN | apply Kd.V_drew)); exact HO_2.out) (Kd.N_base (Kd.S_N ho0)) hb); have n3_ := Aside0.mk (Kd.N_elder' (by (with_reducible repeat (first | apply Kd.N_alloc | apply Kd.N_drewN | apply Kd.N_drew)); exact HO108.out) (Kd.N_base (Kd.S_N ho0)) hb); have n4_ := Aside0.mk (Kd.N_elder' (by (with_reducible repeat (first | apply Kd.N_alloc | apply Kd.N_drewN | apply Kd.N_drew)); exact HO111.out) (Kd.N_base (Kd.S_N ho0)) hb); have n5_ := Aside0.mk (Kd.V_elder' (by (with_reducible repeat (first | apply Kd.V_alloc | apply Kd.V_drewN | apply Kd.V_drew)); exact HL112_0.out) (Kd.N_base (Kd.S_N ho0)) hb); have n6_ := Aside0.mk (Kd.V_elder' (by (with_reducible repeat (first | apply Kd.V_alloc | apply Kd.V_drewN | apply Kd.V_drew)); exact HL113_0.out) (Kd.N_base (Kd.S_N ho0)) hb); have n7_ := Aside0.mk (Kd.V_elder' (by (with_reducible repeat (first | apply Kd.V_alloc | apply Kd.V_drewN | apply Kd.V_drew)); exact HL114_0.out) (Kd.N_base (Kd.S_N ho0)) hb); have n8_ := Aside0.mk (Kd.N_lower (Kd.N_mono (ok' := fun k_ => ((P0_ k_ ∨ P1_ k_ ∨ P2_ k_) ∨ w.heap.size ≤ k_) ∧ some k_ ≠ (.slice Ao23 y106.length co23 : Value).ownBlock ∧ some k_ ≠ (.slice (some ad112) t109.length co33 : Value).ownBlock) (Kd.S_N (Kd.S_bound ho0)) (fun k_ hk_ => ⟨(.inr (Nat.le_trans (below_size (by repeat (first | (with_reducible first | exact HB.out | apply below_alloc | apply pw_below_drewN | apply below_drew1) | exact HB.out))) hk_.2.1)), (Kd.fresh' (Kd.N_lt (by (with_reducible repeat (first | apply Kd.N_alloc | apply Kd.N_drewN | apply Kd.N_drew)); exact HO108.out)) k_ hk_.2.1), (Kd.fresh' (Kd.N_lt (by (with_reducible repeat (first | apply Kd.N_alloc | apply Kd.N_drewN | apply Kd.N_drew)); exact HO111.out)) k_ hk_.2.1)⟩)) (below_size (by repeat (first | (with_reducible first | exact HB.out | apply below_alloc | apply pw_below_drewN | apply below_drew1) | exact HB.out)))); have n9_ := Aside0.mk (Kd.C_below (by repeat (first | (with_reducible exact HR112_0.out) | (with_reducible refine Kd.C_alloc ?_ _) | (with_reducible refine Kd.C_drewN ?_ _) | (with_reducible refine Kd.C_drew ?_) | exact HR112_0.out)) hb); have n10_ := Aside0.mk (Kd.C_below (by repeat (first | (with_reducible exact HR113_0.out) | (with_reducible refine Kd.C_alloc ?_ _) | (with_reducible refine Kd.C_drewN ?_ _) | (with_reducible refine Kd.C_drew ?_) | exact HR113_0.out)) hb); have n11_ := Aside0.mk (Kd.C_below (by repeat (first | (with_reducible exact HR114_0.out) | (with_reducible refine Kd.C_alloc ?_ _) | (with_reducible refine Kd.C_drewN ?_ _) | (with_reducible refine Kd.C_drew ?_) | exact HR114_0.out)) hb); have n12_ := Aside0.mk (below_step (by repeat (first | (with_reducible first | exact HB.out | apply below_alloc | apply pw_below_drewN | apply below_drew1) | exact HB.out)) hb); clear HO_0; clear HO_1; clear HO_2; clear HO108; clear HO111; clear HL112_0; clear HL113_0; clear HL114_0; clear HR112_0; clear HR113_0; clear HR114_0; clear HB; have HO_0 := n0_; have HO_1 := n1_; have HO_2 := n2_; have HO108 := n3_; have HO111 := n4_; have HL112_0 := n5_; have HL113_0 := n6_; have HL114_0 := n7_; have HO117 := n8_; have HR112_0 := n9_; have HR113_0 := n10_; have HR114_0 := n11_; have HB := n12_; clear n0_ n1_ n2_ n3_ n4_ n5_ n6_ n7_ n8_ n9_ n10_ n11_ n12_; (try clear hb); (try clear hb2); (try clear hk); (try clear hi); (try clear ho0); obtain ⟨Ao35, co35, eo35⟩ := Kd.N_slice HO117.out; subst eo35)))
                        go_meet
                        case rel => exact ⟨_, (((t115.length : Int) != 0)), (by first | rfl | (simp; done) | (simp [*]; done)), H', ⟨by have := HJ3.out; first | omega | exact Nat.le_refl _⟩, ⟨by (with_reducible repeat (first | apply Kd.V_alloc | apply Kd.V_drewN | apply Kd.V_drew)); exact Kd.V_mono HO_0.out (fun _ hk => ⟨hk.1.1.1, hk.1.2⟩)⟩, ⟨by (with_reducible repeat (first | apply Kd.V_alloc | apply Kd.V_drewN | apply Kd.V_drew)); exact Kd.V_mono HO_1.out (fun _ hk => ⟨hk.1.1.1, hk.1.2⟩)⟩, ⟨by (with_reducible repeat (first | apply Kd.V_alloc | apply Kd.V_drewN | apply Kd.V_drew)); exact Kd.V_mono HO_2.out (fun _ hk => ⟨hk.1.1.1, hk.1.2⟩)⟩, ⟨by (with_reducible repeat (first | apply Kd.N_alloc | apply Kd.N_drewN | apply Kd.N_drew)); exact Kd.N_mono HO111.out (fun _ hk => hk.1.1)⟩, ⟨by repeat (first | (with_reducible first | exact HB.out | apply below_alloc | apply pw_below_drewN | apply below_drew1) | exact HB.out)⟩⟩
                      · rw [if_neg c31] at H
                        have c31b0 : (((rd_L3 t109 2).length : Int) == (l2.length : Int)) = false := beq_eq_false_iff_ne.mpr c31
                        have c31b1 : (((rd_L3 t109 2).length : Int) != (l2.length : Int)) = true := bne_iff_ne.mpr c31
                        have c31b2 : ((rd_L3 t109 2).length == l2.length) = false := by first | simpa using c31 | (simp at c31 ⊢; omega)
                        have H' := Aside0.mk H
                        clear H
                        obtain ⟨Ao36, co36, eo36⟩ := Kd.N_slice HO111.out
                        subst eo36
                        have p112 : 0 ≤ (0 : Int) := (by omega)
                        have q112 : 0 < (t109.length : Int) := of_decide_eq_true (by first | (with_reducible assumption) | assumption)
                        obtain ⟨ad112, A112_0, c112_0, e112, hx112_0, hl112_0, hi112_0⟩ := at_L3 (Kd.N_reads' HO111.out).2.2 0 p112 q112
                        cases e112
                        obtain ⟨ce112, hce112, hMe112, hcc112⟩ := Kd.N_get HO111.out [] 0 p112 (by first | exact q112 | exact of_decide_eq_true (by first | (with_reducible assumption) | assumption) | (have e_ := (Kd.N_reads' HO111.out).1; omega))
                        obtain ⟨ua112_0, uc112_0, rfl, ul112_0, ge112_0⟩ := Kd.FK_slice_open hMe112
                        have hv112_0 := hcc112 0 _ rfl
                        rw [Nat.add_zero, show ((Kd.slice 3 (Kd.int .i64))).sz = 1 from rfl, Nat.mul_one] at hv112_0
                        replace hv112_0 := Option.some.inj (hv112_0.symm.trans hx112_0)
                        injection hv112_0 with hva_ hvn_ hvc_
                        rw [hva_] at ge112_0
                        rw [hvc_] at ul112_0
                        have HL112_0 := Aside0.mk (show Kd.V (Kd.int .i64) 3 _ w.heap.size _ _ (rd_L3 t109 0) from Kd.V_mk ul112_0 ge112_0)
                        clear hva_ hvn_ hvc_ ge112_0 ul112_0
                        clear hcc112 hce112
                        have qi112 : (0 < t109.length) = True := eq_true (by omega)
                        (try rw [show ((0 : Int)).toNat = 0 from rfl] at hx112_0)
                        (try rw [Addr.add_zero'] at hx112_0)
                        have HR112_0 := Aside0.mk hi112_0
                        have HC112_0 := Aside0.mk hl112_0
                        clear hi112_0 hl112_0
                        replace p112 := eq_true p112
                        replace q112 := eq_true q112
                        have p113 : 0 ≤ (1 : Int) := (by omega)
                        have q113 : 1 < (t109.length : Int) := of_decide_eq_true (by first | (with_reducible assumption) | assumption)
                        obtain ⟨ad113, A113_0, c113_0, e113, hx113_0, hl113_0, hi113_0⟩ := at_L3 (Kd.N_reads' HO111.out).2.2 1 p113 q113
                        obtain rfl : ad112 = ad113 := (by injection e113)
                        obtain ⟨ce113, hce113, hMe113, hcc113⟩ := Kd.N_get HO111.out [] 1 p113 (by first | exact q113 | exact of_decide_eq_true (by first | (with_reducible assumption) | assumption) | (have e_ := (Kd.N_reads' HO111.out).1; omega))
                        obtain ⟨ua113_0, uc113_0, rfl, ul113_0, ge113_0⟩ := Kd.FK_slice_open hMe113
                        have hv113_0 := hcc113 0 _ rfl
                        rw [Nat.add_zero, show ((Kd.slice 3 (Kd.int .i64))).sz = 1 from rfl, Nat.mul_one] at hv113_0
                        replace hv113_0 := Option.some.inj (hv113_0.symm.trans hx113_0)
                        injection hv113_0 with hva_ hvn_ hvc_
                        rw [hva_] at ge113_0
                        rw [hvc_] at ul113_0
                        have HL113_0 := Aside0.mk (show Kd.V (Kd.int .i64) 3 _ w.heap.size _ _ (rd_L3 t109 1) from Kd.V_mk ul113_0 ge113_0)
                        clear hva_ hvn_ hvc_ ge113_0 ul113_0
                        clear hcc113 hce113
                        (try simp only [show (1 : Int).toNat = 1 from rfl, Nat.reduceMul, Nat.reduceEqDiff, Go.Addr.add, ↓reduceIte] at hx113_0)
                        have qi113 : (1 < t109.length) = True := eq_true (by omega)
                        (try rw [show ((1 : Int)).toNat = 1 from rfl] at hx113_0)
                        have HR113_0 := Aside0.mk hi113_0
                        have HC113_0 := Aside0.mk hl113_0
                        clear hi113_0 hl113_0
                        replace p113 := eq_true p113
                        replace q113 := eq_true q113
                        have p114 : 0 ≤ (2 : Int) := (by omega)
                        have q114 : 2 < (t109.length : Int) := of_decide_eq_true (by first | (with_reducible assumption) | assumption)
                        obtain ⟨ad114, A114_0, c114_0, e114, hx114_0, hl114_0, hi114_0⟩ := at_L3 (Kd.N_reads' HO111.out).2.2 2 p114 q114
                        obtain rfl : ad112 = ad114 := (by injection e114)
                        obtain ⟨ce114, hce114, hMe114, hcc114⟩ := Kd.N_get HO111.out [] 2 p114 (by first | exact q114 | exact of_decide_eq_true (by first | (with_reducible assumption) | assumption) | (have e_ := (Kd.N_reads' HO111.out).1; omega))
                        obtain ⟨ua114_0, uc114_0, rfl, ul114_0, ge114_0⟩ := Kd.FK_slice_open hMe114
                        have hv114_0 := hcc114 0 _ rfl
                        rw [Nat.add_zero, show ((Kd.slice 3 (Kd.int .i64))).sz = 1 from rfl, Nat.mul_one] at hv114_0
                        replace hv114_0 := Option.some.inj (hv114_0.symm.trans hx114_0)
                        injection hv114_0 with hva_ hvn_ hvc_
                        rw [hva_] at ge114_0
                        rw [hvc_] at ul114_0
                        have HL114_0 := Aside0.mk (show Kd.V (Kd.int .i64) 3 _ w.heap.size _ _ (rd_L3 t109 2) from Kd.V_mk ul114_0 ge114_0)
                        clear hva_ hvn_ hvc_ ge114_0 ul114_0
                        clear hcc114 hce114
                        (try simp only [show (2 : Int).toNat = 2 from rfl, Nat.reduceMul, Nat.reduceEqDiff, Go.Addr.add, ↓reduceIte] at hx114_0)
                        have qi114 : (2 < t109.length) = True := eq_true (by omega)
                        (try rw [show ((2 : Int)).toNat = 2 from rfl] at hx114_0)
                        have HR114_0 := Aside0.mk hi114_0
                        have HC114_0 := Aside0.mk hl114_0
                        clear hi114_0 hl114_0
                        replace p114 := eq_true p114
                        replace q114 := eq_true q114
                        go_wp2
                        repeat (go_quiet (fail); try go_wp2)
                        go_meet
                        case rel => exact ⟨_, (true), (by first | rfl | (simp; done) | (simp [*]; done)), H', ⟨by have := HJ3.out; first | omega | exact Nat.le_refl _⟩, ⟨by (with_reducible repeat (first | apply Kd.V_alloc | apply Kd.V_drewN | apply Kd.V_drew)); exact Kd.V_mono HO_0.out (fun _ hk => ⟨hk.1.1, hk.2⟩)⟩, ⟨by (with_reducible repeat (first | apply Kd.V_alloc | apply Kd.V_drewN | apply Kd.V_drew)); exact Kd.V_mono HO_1.out (fun _ hk => ⟨hk.1.1, hk.2⟩)⟩, ⟨by (with_reducible repeat (first | apply Kd.V_alloc | apply Kd.V_drewN | apply Kd.V_drew)); exact Kd.V_mono HO_2.out (fun _ hk => ⟨hk.1.1, hk.2⟩)⟩, ⟨by (with_reducible repeat (first | apply Kd.N_alloc | apply Kd.N_drewN | apply Kd.N_drew)); exact Kd.N_mono HO111.out (fun _ hk => hk.1)⟩, ⟨by repeat (first | (with_reducible first | exact HB.out | apply below_alloc | apply pw_below_drewN | apply below_drew1) | exact HB.out)⟩⟩
                    · rw [if_neg c30] at H
                      exact absurd H (by simp)
                  · rw [if_neg c29] at H
                    have c29b0 : (((rd_L3 t109 1).length : Int) == (l1.length : Int)) = false := beq_eq_false_iff_ne.mpr c29
                    have c29b1 : (((rd_L3 t109 1).length : Int) != (l1.length : Int)) = true := bne_iff_ne.mpr c29
                    have c29b2 : ((rd_L3 t109 1).length == l1.length) = false := by first | simpa using c29 | (simp at c29 ⊢; omega)
                    have H' := Aside0.mk H
                    clear H
                    obtain ⟨Ao37, co37, eo37⟩ := Kd.N_slice HO111.out
                    subst eo37
                    have p112 : 0 ≤ (0 : Int) := (by omega)
                    have q112 : 0 < (t109.length : Int) := of_decide_eq_true (by first | (with_reducible assumption) | assumption)
                    obtain ⟨ad112, A112_0, c112_0, e112, hx112_0, hl112_0, hi112_0⟩ := at_L3 (Kd.N_reads' HO111.out).2.2 0 p112 q112
                    cases e112
                    obtain ⟨ce112, hce112, hMe112, hcc112⟩ := Kd.N_get HO111.out [] 0 p112 (by first | exact q112 | exact of_decide_eq_true (by first | (with_reducible assumption) | assumption) | (have e_ := (Kd.N_reads' HO111.out).1; omega))
                    obtain ⟨ua112_0, uc112_0, rfl, ul112_0, ge112_0⟩ := Kd.FK_slice_open hMe112
                    have hv112_0 := hcc112 0 _ rfl
                    rw [Nat.add_zero, show ((Kd.slice 3 (Kd.int .i64))).sz = 1 from rfl, Nat.mul_one] at hv112_0
                    replace hv112_0 := Option.some.inj (hv112_0.symm.trans hx112_0)
                    injection hv112_0 with hva_ hvn_ hvc_
                    rw [hva_] at ge112_0
                    rw [hvc_] at ul112_0
                    have HL112_0 := Aside0.mk (show Kd.V (Kd.int .i64) 3 _ w.heap.size _ _ (rd_L3 t109 0) from Kd.V_mk ul112_0 ge112_0)
                    clear hva_ hvn_ hvc_ ge112_0 ul112_0
                    clear hcc112 hce112
                    have qi112 : (0 < t109.length) = True := eq_true (by omega)
                    (try rw [show ((0 : Int)).toNat = 0 from rfl] at hx112_0)
                    (try rw [Addr.add_zero'] at hx112_0)
                    have HR112_0 := Aside0.mk hi112_0
                    have HC112_0 := Aside0.mk hl112_0
                    clear hi112_0 hl112_0
                    replace p112 := eq_true p112
                    replace q112 := eq_true q112
                    have p113 : 0 ≤ (1 : Int) := (by omega)
                    have q113 : 1 < (t109.length : Int) := of_decide_eq_true (by first | (with_reducible assumption) | assumption)
                    obtain ⟨ad113, A113_0, c113_0, e113, hx113_0, hl113_0, hi113_0⟩ := at_L3 (Kd.N_reads' HO111.out).2.2 1 p113 q113
                    obtain rfl : ad112 = ad113 := (by injection e113)
                    obtain ⟨ce113, hce113, hMe113, hcc113⟩ := Kd.N_get HO111.out [] 1 p113 (by first | exact q113 | exact of_decide_eq_true (by first | (with_reducible assumption) | assumption) | (have e_ := (Kd.N_reads' HO111.out).1; omega))
                    obtain ⟨ua113_0, uc113_0, rfl, ul113_0, ge113_0⟩ := Kd.FK_slice_open hMe113
                    have hv113_0 := hcc113 0 _ rfl
                    rw [Nat.add_zero, show ((Kd.slice 3 (Kd.int .i64))).sz = 1 from rfl, Nat.mul_one] at hv113_0
                    replace hv113_0 := Option.some.inj (hv113_0.symm.trans hx113_0)
                    injection hv113_0 with hva_ hvn_ hvc_
                    rw [hva_] at ge113_0
                    rw [hvc_] at ul113_0
                    have HL113_0 := Aside0.mk (show Kd.V (Kd.int .i64) 3 _ w.heap.size _ _ (rd_L3 t109 1) from Kd.V_mk ul113_0 ge113_0)
                    clear hva_ hvn_ hvc_ ge113_0 ul113_0
                    clear hcc113 hce113
                    (try simp only [show (1 : Int).toNat = 1 from rfl, Nat.reduceMul, Nat.reduceEqDiff, Go.Addr.add, ↓reduceIte] at hx113_0)
                    have qi113 : (1 < t109.length) = True := eq_true (by omega)
                    (try rw [show ((1 : Int)).toNat = 1 from rfl] at hx113_0)
                    have HR113_0 := Aside0.mk hi113_0
                    have HC113_0 := Aside0.mk hl113_0
                    clear hi113_0 hl113_0
                    replace p113 := eq_true p113
                    replace q113 := eq_true q113
                    go_wp2
                    repeat (go_quiet (fail); try go_wp2)
                    go_meet
                    case rel => exact ⟨_, (true), (by first | rfl | (simp; done) | (simp [*]; done)), H', ⟨by have := HJ3.out; first | omega | exact Nat.le_refl _⟩, ⟨by (with_reducible repeat (first | apply Kd.V_alloc | apply Kd.V_drewN | apply Kd.V_drew)); exact Kd.V_mono HO_0.out (fun _ hk => ⟨hk.1.1, hk.2⟩)⟩, ⟨by (with_reducible repeat (first | apply Kd.V_alloc | apply Kd.V_drewN | apply Kd.V_drew)); exact Kd.V_mono HO_1.out (fun _ hk => ⟨hk.1.1, hk.2⟩)⟩, ⟨by (with_reducible repeat (first | apply Kd.V_alloc | apply Kd.V_drewN | apply Kd.V_drew)); exact Kd.V_mono HO_2.out (fun _ hk => ⟨hk.1.1, hk.2⟩)⟩, ⟨by (with_reducible repeat (first | apply Kd.N_alloc | apply Kd.N_drewN | apply Kd.N_drew)); exact Kd.N_mono HO111.out (fun _ hk => hk.1)⟩, ⟨by repeat (first | (with_reducible first | exact HB.out | apply below_alloc | apply pw_below_drewN | apply below_drew1) | exact HB.out)⟩⟩
                · rw [if_neg c28] at H
                  exact absurd H (by simp)
              · rw [if_neg c27] at H
                have c27b0 : (((rd_L3 t109 0).length : Int) == (l0.length : Int)) = false := beq_eq_false_iff_ne.mpr c27
                have c27b1 : (((rd_L3 t109 0).length : Int) != (l0.length : Int)) = true := bne_iff_ne.mpr c27
                have c27b2 : ((rd_L3 t109 0).length == l0.length) = false := by first | simpa using c27 | (simp at c27 ⊢; omega)
                have H' := Aside0.mk H
                clear H
                obtain ⟨Ao38, co38, eo38⟩ := Kd.N_slice HO111.out
                subst eo38
                have p112 : 0 ≤ (0 : Int) := (by omega)
                have q112 : 0 < (t109.length : Int) := of_decide_eq_true (by first | (with_reducible assumption) | assumption)
                obtain ⟨ad112, A112_0, c112_0, e112, hx112_0, hl112_0, hi112_0⟩ := at_L3 (Kd.N_reads' HO111.out).2.2 0 p112 q112
                cases e112
                obtain ⟨ce112, hce112, hMe112, hcc112⟩ := Kd.N_get HO111.out [] 0 p112 (by first | exact q112 | exact of_decide_eq_true (by first | (with_reducible assumption) | assumption) | (have e_ := (Kd.N_reads' HO111.out).1; omega))
                obtain ⟨ua112_0, uc112_0, rfl, ul112_0, ge112_0⟩ := Kd.FK_slice_open hMe112
                have hv112_0 := hcc112 0 _ rfl
                rw [Nat.add_zero, show ((Kd.slice 3 (Kd.int .i64))).sz = 1 from rfl, Nat.mul_one] at hv112_0
                replace hv112_0 := Option.some.inj (hv112_0.symm.trans hx112_0)
                injection hv112_0 with hva_ hvn_ hvc_
                rw [hva_] at ge112_0
                rw [hvc_] at ul112_0
                have HL112_0 := Aside0.mk (show Kd.V (Kd.int .i64) 3 _ w.heap.size _ _ (rd_L3 t109 0) from Kd.V_mk ul112_0 ge112_0)
                clear hva_ hvn_ hvc_ ge112_0 ul112_0
                clear hcc112 hce112
                have qi112 : (0 < t109.length) = True := eq_true (by omega)
                (try rw [show ((0 : Int)).toNat = 0 from rfl] at hx112_0)
                (try rw [Addr.add_zero'] at hx112_0)
                have HR112_0 := Aside0.mk hi112_0
                have HC112_0 := Aside0.mk hl112_0
                clear hi112_0 hl112_0
                replace p112 := eq_true p112
                replace q112 := eq_true q112
                go_wp2
                repeat (go_quiet (fail); try go_wp2)
                go_meet
                case rel => exact ⟨_, (true), (by first | rfl | (simp; done) | (simp [*]; done)), H', ⟨by have := HJ3.out; first | omega | exact Nat.le_refl _⟩, ⟨by (with_reducible repeat (first | apply Kd.V_alloc | apply Kd.V_drewN | apply Kd.V_drew)); exact Kd.V_mono HO_0.out (fun _ hk => ⟨hk.1.1, hk.2⟩)⟩, ⟨by (with_reducible repeat (first | apply Kd.V_alloc | apply Kd.V_drewN | apply Kd.V_drew)); exact Kd.V_mono HO_1.out (fun _ hk => ⟨hk.1.1, hk.2⟩)⟩, ⟨by (with_reducible repeat (first | apply Kd.V_alloc | apply Kd.V_drewN | apply Kd.V_drew)); exact Kd.V_mono HO_2.out (fun _ hk => ⟨hk.1.1, hk.2⟩)⟩, ⟨by (with_reducible repeat (first | apply Kd.N_alloc | apply Kd.N_drewN | apply Kd.N_drew)); exact Kd.N_mono HO111.out (fun _ hk => hk.1)⟩, ⟨by repeat (first | (with_reducible first | exact HB.out | apply below_alloc | apply pw_below_drewN | apply below_drew1) | exact HB.out)⟩⟩
            · rw [if_neg c26] at H
              exact absurd H (by simp)
          · rw [if_neg c25] at H
            have c25b0 : ((t109.length : Int) == 3) = false := beq_eq_false_iff_ne.mpr c25
            have c25b1 : ((t109.length : Int) != 3) = true := bne_iff_ne.mpr c25
            (first | rw [c25b0] | (simp only [i64_w, i32_w]; rw [c25b0]) | skip)
            have H' := Aside0.mk H
            clear H
            obtain ⟨Ao39, co39, eo39⟩ := Kd.N_slice HO111.out
            subst eo39
            go_wp2
            repeat (go_quiet (fail); try go_wp2)
            go_meet
            case rel => exact ⟨_, (true), (by first | rfl | (simp; done) | (simp [*]; done)), H', ⟨by have := HJ3.out; first | omega | exact Nat.le_refl _⟩, ⟨by (with_reducible repeat (first | apply Kd.V_alloc | apply Kd.V_drewN | apply Kd.V_drew)); exact Kd.V_mono HO_0.out (fun _ hk => ⟨hk.1.1, hk.2⟩)⟩, ⟨by (with_reducible repeat (first | apply Kd.V_alloc | apply Kd.V_drewN | apply Kd.V_drew)); exact Kd.V_mono HO_1.out (fun _ hk => ⟨hk.1.1, hk.2⟩)⟩, ⟨by (with_reducible repeat (first | apply Kd.V_alloc | apply Kd.V_drewN | apply Kd.V_drew)); exact Kd.V_mono HO_2.out (fun _ hk => ⟨hk.1.1, hk.2⟩)⟩, ⟨by (with_reducible repeat (first | apply Kd.N_alloc | apply Kd.N_drewN | apply Kd.N_drew)); exact Kd.N_mono HO111.out (fun _ hk => hk.1)⟩, ⟨by repeat (first | (with_reducible first | exact HB.out | apply below_alloc | apply pw_below_drewN | apply below_drew1) | exact HB.out)⟩⟩
        case rest =>
          clear HC20
          try clear c1
          try clear p1
          try clear q1
          try clear hx1
          try clear qi1
          try clear c2
          try clear p2
          try clear c3
          try clear c6
          try clear c8
          try clear c10
          try clear c11
          try clear p11
          try clear q11
          try clear hx11
          try clear qi11
          try clear c16
          try clear c23
          try clear c25
          try clear c25b0
          try clear c25b1
          try clear c26
          try clear c26b0
          try clear c26b1
          try clear c27
          try clear c27b0
          try clear c27b1
          try clear c27b2
          try clear c28
          try clear c28b0
          try clear c28b1
          try clear c29
          try clear c29b0
          try clear c29b1
          try clear c29b2
          try clear c30
          try clear c30b0
          try clear c30b1
          try clear c31
          try clear c31b0
          try clear c31b1
          try clear c31b2
          try clear hx112_0
          try clear hx113_0
          try clear hx114_0
          try clear p112
          try clear p113
          try clear p114
          try clear p2
          try clear q112
          try clear q113
          try clear q114
          obtain ⟨kq, x68_19, rfl, HA, HJ19, HO_0, HO_1, HO_2, HO_7, HB⟩ := hcut
          cases kq with
          | zero => exact absurd HA.out (by simp [emendationlaw03_TokenSame.j1])
          | succ kj19 =>
            have H := HA.out
            clear HA
            simp only [emendationlaw03_TokenSame.j1] at H
            by_cases c40 : x68_19 = true
            · subst c40
              have H1 : (some false) = some r := by rw [if_pos rfl] at H; exact H
              clear H
              have H := H1
              clear H1
              obtain rfl := Option.some.inj H
              go_wp2
              repeat (go_quiet (fail); try go_wp2)
              go_ret
              exact ⟨by first | rfl | (simp [errW_none, errW_some] <;> rfl) | (simp [*, errW_none, errW_some] <;> rfl), by repeat (first | (with_reducible first | exact HB.out | apply below_alloc | apply pw_below_drewN | apply below_drew1) | exact HB.out)⟩
            · replace c40 := Bool.eq_false_iff.mpr c40
              subst c40
              have H1 : (emendationlaw03_TokenSame.l0 kj19 l0 l1 l2 t109 (l0.length : Int) 0) = some r := by rw [if_neg (show ¬ (false = true) by decide)] at H; exact H
              clear H
              have H := H1
              clear H1
              have H' := Aside0.mk H
              clear H
              go_wp2
              repeat (go_quiet (fail); try go_wp2)
              go_loopg [71] kj19 (fun kq v71 w' => ∃ (x71_3 : Int), v71 = .int .i64 x71_3 ∧ Aside0 (emendationlaw03_TokenSame.l0 kq l0 l1 l2 t109 (l0.length : Int) x71_3 = some r) ∧ Aside0 (kq ≤ kj19) ∧ Aside0 (Kd.V Kd.string 9 w' w.heap.size (fun k_ => ((P0_ k_ ∨ P1_ k_ ∨ P2_ k_) ∨ w.heap.size ≤ k_) ∧ some k_ ≠ (v110 : Value).ownBlock) (.slice A0 l0.length c0) l0) ∧ Aside0 (Kd.V Kd.string 9 w' w.heap.size (fun k_ => ((P0_ k_ ∨ P1_ k_ ∨ P2_ k_) ∨ w.heap.size ≤ k_) ∧ some k_ ≠ (v110 : Value).ownBlock) (.slice A1 l1.length c1) l1) ∧ Aside0 (Kd.V Kd.string 9 w' w.heap.size (fun k_ => ((P0_ k_ ∨ P1_ k_ ∨ P2_ k_) ∨ w.heap.size ≤ k_) ∧ some k_ ≠ (v110 : Value).ownBlock) (.slice A2 l2.length c2) l2) ∧ Aside0 (Kd.N (Kd.slice 3 (Kd.int .i64)) 29 w' w.heap.size (fun k_ => ((P0_ k_ ∨ P1_ k_ ∨ P2_ k_) ∨ w.heap.size ≤ k_)) v110 t109) ∧ Aside0 (Below w.heap.size w w'))
              case atStart => exact ⟨(0), (by first | rfl | (simp; done) | (simp [*]; done)), H', ⟨Nat.le_refl _⟩, ⟨by (with_reducible repeat (first | apply Kd.V_alloc | apply Kd.V_drewN | apply Kd.V_drew)); exact HO_0.out⟩, ⟨by (with_reducible repeat (first | apply Kd.V_alloc | apply Kd.V_drewN | apply Kd.V_drew)); exact HO_1.out⟩, ⟨by (with_reducible repeat (first | apply Kd.V_alloc | apply Kd.V_drewN | apply Kd.V_drew)); exact HO_2.out⟩, ⟨by (with_reducible repeat (first | apply Kd.N_alloc | apply Kd.N_drewN | apply Kd.N_drew)); exact HO_7.out⟩, ⟨by repeat (first | (with_reducible first | exact HB.out | apply below_alloc | apply pw_below_drewN | apply below_drew1) | exact HB.out)⟩⟩
              case round =>
                clear H'
                try clear c1
                try clear p1
                try clear q1
                try clear hx1
                try clear qi1
                try clear c2
                try clear p2
                try clear c3
                try clear c4
                try clear c6
                try clear c8
                try clear c10
                try clear c11
                try clear p11
                try clear q11
                try clear hx11
                try clear qi11
                try clear c16
                try clear c23
                try clear c25
                try clear c25b0
                try clear c25b1
                try clear c26
                try clear c26b0
                try clear c26b1
                try clear c27
                try clear c27b0
                try clear c27b1
                try clear c27b2
                try clear c28
                try clear c28b0
                try clear c28b1
                try clear c29
                try clear c29b0
                try clear c29b1
                try clear c29b2
                try clear c30
                try clear c30b0
                try clear c30b1
                try clear c31
                try clear c31b0
                try clear c31b1
                try clear c31b2
                try clear c40
                try clear hx112_0
                try clear hx113_0
                try clear hx114_0
                try clear p1
                try clear p11
                try clear p112
                try clear p113
                try clear p114
                try clear p2
                try clear q1
                try clear q11
                try clear q112
                try clear q113
                try clear q114
                obtain ⟨x71_3, rfl, HA, HK3, HO_0, HO_1, HO_2, HO_7, HB⟩ := hrel
                cases gk with
                | zero => exact absurd HA.out (by simp [emendationlaw03_TokenSame.l0])
                | succ k3 =>
                  have H := HA.out
                  clear HA
                  simp only [emendationlaw03_TokenSame.l0] at H
                  by_cases c41 : x71_3 < (l0.length : Int)
                  · rw [if_pos c41] at H
                    have c41b0 : decide (x71_3 < (l0.length : Int)) = true := decide_eq_true c41
                    clear c41
                    have H' := Aside0.mk H
                    clear H
                    go_wp2
                    repeat (go_quiet (fail); try go_wp2)
                    go_loopg [76] k3 (fun kq v76 w' => ∃ (x76_4 : Int), v76 = .int .i64 x76_4 ∧ Aside0 (emendationlaw03_TokenSame.l1 kq l0 l1 l2 t109 x71_3 (l0.length : Int) x71_3 (l2.length : Int) x76_4 = some r) ∧ Aside0 (kq ≤ k3) ∧ Aside0 (Kd.V Kd.string 9 w' w.heap.size (fun k_ => ((P0_ k_ ∨ P1_ k_ ∨ P2_ k_) ∨ w.heap.size ≤ k_) ∧ some k_ ≠ (v110 : Value).ownBlock) (.slice A0 l0.length c0) l0) ∧ Aside0 (Kd.V Kd.string 9 w' w.heap.size (fun k_ => ((P0_ k_ ∨ P1_ k_ ∨ P2_ k_) ∨ w.heap.size ≤ k_) ∧ some k_ ≠ (v110 : Value).ownBlock) (.slice A1 l1.length c1) l1) ∧ Aside0 (Kd.V Kd.string 9 w' w.heap.size (fun k_ => ((P0_ k_ ∨ P1_ k_ ∨ P2_ k_) ∨ w.heap.size ≤ k_) ∧ some k_ ≠ (v110 : Value).ownBlock) (.slice A2 l2.length c2) l2) ∧ Aside0 (Kd.N (Kd.slice 3 (Kd.int .i64)) 29 w' w.heap.size (fun k_ => ((P0_ k_ ∨ P1_ k_ ∨ P2_ k_) ∨ w.heap.size ≤ k_)) v110 t109) ∧ Aside0 (Below w.heap.size w w'))
                    case atStart => exact ⟨(0), (by first | rfl | (simp; done) | (simp [*]; done)), H', ⟨Nat.le_refl _⟩, ⟨by (with_reducible repeat (first | apply Kd.V_alloc | apply Kd.V_drewN | apply Kd.V_drew)); exact HO_0.out⟩, ⟨by (with_reducible repeat (first | apply Kd.V_alloc | apply Kd.V_drewN | apply Kd.V_drew)); exact HO_1.out⟩, ⟨by (with_reducible repeat (first | apply Kd.V_alloc | apply Kd.V_drewN | apply Kd.V_drew)); exact HO_2.out⟩, ⟨by (with_reducible repeat (first | apply Kd.N_alloc | apply Kd.N_drewN | apply Kd.N_drew)); exact HO_7.out⟩, ⟨by repeat (first | (with_reducible first | exact HB.out | apply below_alloc | apply pw_below_drewN | apply below_drew1) | exact HB.out)⟩⟩
                    case round =>
                      clear H'
                      try clear c1
                      try clear p1
                      try clear q1
                      try clear hx1
                      try clear qi1
                      try clear c2
                      try clear p2
                      try clear c3
                      try clear c4
                      try clear c6
                      try clear c8
                      try clear c10
                      try clear c11
                      try clear p11
                      try clear q11
                      try clear hx11
                      try clear qi11
                      try clear c16
                      try clear c23
                      try clear c25
                      try clear c25b0
                      try clear c25b1
                      try clear c26
                      try clear c26b0
                      try clear c26b1
                      try clear c27
                      try clear c27b0
                      try clear c27b1
                      try clear c27b2
                      try clear c28
                      try clear c28b0
                      try clear c28b1
                      try clear c29
                      try clear c29b0
                      try clear c29b1
                      try clear c29b2
                      try clear c30
                      try clear c30b0
                      try clear c30b1
                      try clear c31
                      try clear c31b0
                      try clear c31b1
                      try clear c31b2
                      try clear c40
                      try clear c41
                      try clear c41b0
                      try clear hx112_0
                      try clear hx113_0
                      try clear hx114_0
                      try clear p1
                      try clear p11
                      try clear p112
                      try clear p113
                      try clear p114
                      try clear p2
                      try clear q1
                      try clear q11
                      try clear q112
                      try clear q113
                      try clear q114
                      obtain ⟨x76_4, rfl, HA, HK4, HO_0, HO_1, HO_2, HO_7, HB⟩ := hrel
                      cases gk with
                      | zero => exact absurd HA.out (by simp [emendationlaw03_TokenSame.l1])
                      | succ k4 =>
                        have H := HA.out
                        clear HA
                        simp only [emendationlaw03_TokenSame.l1] at H
                        by_cases c42 : x76_4 < (l2.length : Int)
                        · rw [if_pos c42] at H
                          have c42b0 : decide (x76_4 < (l2.length : Int)) = true := decide_eq_true c42
                          clear c42
                          by_cases c43 : 0 ≤ x71_3
                          · rw [if_pos c43] at H
                            have c43b0 : decide (0 ≤ x71_3) = true := decide_eq_true c43
                            clear c43
                            by_cases c44 : x71_3 < (l0.length : Int)
                            · rw [if_pos c44] at H
                              have c44b0 : decide (x71_3 < (l0.length : Int)) = true := decide_eq_true c44
                              clear c44
                              by_cases c45 : 0 ≤ x76_4
                              · rw [if_pos c45] at H
                                have c45b0 : decide (0 ≤ x76_4) = true := decide_eq_true c45
                                clear c45
                                by_cases c46 : x76_4 < (l2.length : Int)
                                · rw [if_pos c46] at H
                                  have c46b0 : decide (x76_4 < (l2.length : Int)) = true := decide_eq_true c46
                                  clear c46
                                  by_cases c47 : 0 < (t109.length : Int)
                                  · rw [if_pos c47] at H
                                    have c47b0 : decide (0 < (t109.length : Int)) = true := decide_eq_true c47
                                    have c47b1 : decide (0 < t109.length) = true := decide_eq_true (by omega)
                                    clear c47
                                    by_cases c48 : x71_3 < ((rd_L3 t109 0).length : Int)
                                    · rw [if_pos c48] at H
                                      have c48b0 : decide (x71_3 < ((rd_L3 t109 0).length : Int)) = true := decide_eq_true c48
                                      clear c48
                                      by_cases c49 : 2 < (t109.length : Int)
                                      · rw [if_pos c49] at H
                                        have c49b0 : decide (2 < (t109.length : Int)) = true := decide_eq_true c49
                                        have c49b1 : decide (2 < t109.length) = true := decide_eq_true (by omega)
                                        clear c49
                                        by_cases c50 : x76_4 < ((rd_L3 t109 2).length : Int)
                                        · rw [if_pos c50] at H
                                          have c50b0 : decide (x76_4 < ((rd_L3 t109 2).length : Int)) = true := decide_eq_true c50
                                          clear c50
                                          by_cases c51 : (((rdOf ByteArray.empty l0 x71_3).toList == (rdOf ByteArray.empty l2 x76_4).toList) != ((rd (rd_L3 t109 0) x71_3) == (rd (rd_L3 t109 2) x76_4))) = true
                                          · rw [if_pos c51] at H
                                            have c51b0 : (((rdOf ByteArray.empty l0 x71_3).toList == (rdOf ByteArray.empty l2 x76_4).toList) != ((rd (rd_L3 t109 0) x71_3) == (rd (rd_L3 t109 2) x76_4))) = true := c51
                                            (try (have c51b1 : decide (((rdOf ByteArray.empty l0 x71_3).toList == (rdOf ByteArray.empty l2 x76_4).toList) = ((rd (rd_L3 t109 0) x71_3) == (rd (rd_L3 t109 2) x76_4))) = false := by simpa using c51))
                                            (try (have c51b2 : (((rdOf ByteArray.empty l0 x71_3).toList == (rdOf ByteArray.empty l2 x76_4).toList) == ((rd (rd_L3 t109 0) x71_3) == (rd (rd_L3 t109 2) x76_4))) = false := by simpa using c51))
                                            (try (have c51b3 : ¬ (((rdOf ByteArray.empty l0 x71_3).toList == (rdOf ByteArray.empty l2 x76_4).toList) = ((rd (rd_L3 t109 0) x71_3) == (rd (rd_L3 t109 2) x76_4))) := by simpa using c51))
                                            clear c51
                                            obtain rfl := Option.some.inj H
                                            have p118 : 0 ≤ (x71_3 : Int) := of_decide_eq_true (by first | (with_reducible assumption) | assumption)
                                            have q118 : x71_3 < (l0.length : Int) := of_decide_eq_true (by first | (with_reducible assumption) | assumption)
                                            obtain ⟨ad118, e118, hx118_0⟩ := Kd.at_string (Kd.V_reads' HO_0.out).2.2 x71_3 p118 q118
                                            cases e118
                                            replace p118 := eq_true p118
                                            replace q118 := eq_true q118
                                            have p119 : 0 ≤ (x76_4 : Int) := of_decide_eq_true (by first | (with_reducible assumption) | assumption)
                                            have q119 : x76_4 < (l2.length : Int) := of_decide_eq_true (by first | (with_reducible assumption) | assumption)
                                            obtain ⟨ad119, e119, hx119_0⟩ := Kd.at_string (Kd.V_reads' HO_2.out).2.2 x76_4 p119 q119
                                            cases e119
                                            replace p119 := eq_true p119
                                            replace q119 := eq_true q119
                                            obtain ⟨Ao52, co52, eo52⟩ := Kd.N_slice HO_7.out
                                            subst eo52
                                            have p120 : 0 ≤ (0 : Int) := (by omega)
                                            have q120 : 0 < (t109.length : Int) := of_decide_eq_true (by first | (with_reducible assumption) | assumption)
                                            obtain ⟨ad120, A120_0, c120_0, e120, hx120_0, hl120_0, hi120_0⟩ := at_L3 (Kd.N_reads' HO_7.out).2.2 0 p120 q120
                                            cases e120
                                            obtain ⟨ce120, hce120, hMe120, hcc120⟩ := Kd.N_get HO_7.out [] 0 p120 (by first | exact q120 | exact of_decide_eq_true (by first | (with_reducible assumption) | assumption) | (have e_ := (Kd.N_reads' HO_7.out).1; omega))
                                            obtain ⟨ua120_0, uc120_0, rfl, ul120_0, ge120_0⟩ := Kd.FK_slice_open hMe120
                                            have hv120_0 := hcc120 0 _ rfl
                                            rw [Nat.add_zero, show ((Kd.slice 3 (Kd.int .i64))).sz = 1 from rfl, Nat.mul_one] at hv120_0
                                            replace hv120_0 := Option.some.inj (hv120_0.symm.trans hx120_0)
                                            injection hv120_0 with hva_ hvn_ hvc_
                                            rw [hva_] at ge120_0
                                            rw [hvc_] at ul120_0
                                            have HL120_0 := Aside0.mk (show Kd.V (Kd.int .i64) 3 _ w.heap.size _ _ (rd_L3 t109 0) from Kd.V_mk ul120_0 ge120_0)
                                            clear hva_ hvn_ hvc_ ge120_0 ul120_0
                                            clear hcc120 hce120
                                            have qi120 : (0 < t109.length) = True := eq_true (by omega)
                                            (try rw [show ((0 : Int)).toNat = 0 from rfl] at hx120_0)
                                            (try rw [Addr.add_zero'] at hx120_0)
                                            have HR120_0 := Aside0.mk hi120_0
                                            have HC120_0 := Aside0.mk hl120_0
                                            clear hi120_0 hl120_0
                                            replace p120 := eq_true p120
                                            replace q120 := eq_true q120
                                            have p121 : 0 ≤ (x71_3 : Int) := of_decide_eq_true (by first | (with_reducible assumption) | assumption)
                                            have q121 : x71_3 < ((rd_L3 t109 0).length : Int) := of_decide_eq_true (by first | (with_reducible assumption) | assumption)
                                            obtain ⟨ad121, e121, hx121_0⟩ := Kd.at_int (by repeat (first | (with_reducible exact HR120_0.out) | (with_reducible refine Kd.C_alloc ?_ _) | (with_reducible refine Kd.C_drewN ?_ _) | (with_reducible refine Kd.C_drew ?_) | exact HR120_0.out)) x71_3 p121 q121
                                            cases e121
                                            replace p121 := eq_true p121
                                            replace q121 := eq_true q121
                                            have p122 : 0 ≤ (2 : Int) := (by omega)
                                            have q122 : 2 < (t109.length : Int) := of_decide_eq_true (by first | (with_reducible assumption) | assumption)
                                            obtain ⟨ad122, A122_0, c122_0, e122, hx122_0, hl122_0, hi122_0⟩ := at_L3 (Kd.N_reads' HO_7.out).2.2 2 p122 q122
                                            obtain rfl : ad120 = ad122 := (by injection e122)
                                            obtain ⟨ce122, hce122, hMe122, hcc122⟩ := Kd.N_get HO_7.out [] 2 p122 (by first | exact q122 | exact of_decide_eq_true (by first | (with_reducible assumption) | assumption) | (have e_ := (Kd.N_reads' HO_7.out).1; omega))
                                            obtain ⟨ua122_0, uc122_0, rfl, ul122_0, ge122_0⟩ := Kd.FK_slice_open hMe122
                                            have hv122_0 := hcc122 0 _ rfl
                                            rw [Nat.add_zero, show ((Kd.slice 3 (Kd.int .i64))).sz = 1 from rfl, Nat.mul_one] at hv122_0
                                            replace hv122_0 := Option.some.inj (hv122_0.symm.trans hx122_0)
                                            injection hv122_0 with hva_ hvn_ hvc_
                                            rw [hva_] at ge122_0
                                            rw [hvc_] at ul122_0
                                            have HL122_0 := Aside0.mk (show Kd.V (Kd.int .i64) 3 _ w.heap.size _ _ (rd_L3 t109 2) from Kd.V_mk ul122_0 ge122_0)
                                            clear hva_ hvn_ hvc_ ge122_0 ul122_0
                                            clear hcc122 hce122
                                            (try simp only [show (2 : Int).toNat = 2 from rfl, Nat.reduceMul, Nat.reduceEqDiff, Go.Addr.add, ↓reduceIte] at hx122_0)
                                            have qi122 : (2 < t109.length) = True := eq_true (by omega)
                                            (try rw [show ((2 : Int)).toNat = 2 from rfl] at hx122_0)
                                            have HR122_0 := Aside0.mk hi122_0
                                            have HC122_0 := Aside0.mk hl122_0
                                            clear hi122_0 hl122_0
                                            replace p122 := eq_true p122
                                            replace q122 := eq_true q122
                                            have p123 : 0 ≤ (x76_4 : Int) := of_decide_eq_true (by first | (with_reducible assumption) | assumption)
                                            have q123 : x76_4 < ((rd_L3 t109 2).length : Int) := of_decide_eq_true (by first | (with_reducible assumption) | assumption)
                                            obtain ⟨ad123, e123, hx123_0⟩ := Kd.at_int (by repeat (first | (with_reducible exact HR122_0.out) | (with_reducible refine Kd.C_alloc ?_ _) | (with_reducible refine Kd.C_drewN ?_ _) | (with_reducible refine Kd.C_drew ?_) | exact HR122_0.out)) x76_4 p123 q123
                                            cases e123
                                            replace p123 := eq_true p123
                                            replace q123 := eq_true q123
                                            go_wp2
                                            repeat (go_quiet (fail); try go_wp2)
                                            go_ret
                                            exact ⟨by first | rfl | (simp [errW_none, errW_some] <;> rfl) | (simp [*, errW_none, errW_some] <;> rfl), by repeat (first | (with_reducible first | exact HB.out | apply below_alloc | apply pw_below_drewN | apply below_drew1) | exact HB.out)⟩
                                          · rw [if_neg c51] at H
                                            have c51b0 : (((rdOf ByteArray.empty l0 x71_3).toList == (rdOf ByteArray.empty l2 x76_4).toList) != ((rd (rd_L3 t109 0) x71_3) == (rd (rd_L3 t109 2) x76_4))) = false := by simpa using c51
                                            (try (have c51b1 : decide (((rdOf ByteArray.empty l0 x71_3).toList == (rdOf ByteArray.empty l2 x76_4).toList) = ((rd (rd_L3 t109 0) x71_3) == (rd (rd_L3 t109 2) x76_4))) = true := by simpa using c51))
                                            (try (have c51b2 : (((rdOf ByteArray.empty l0 x71_3).toList == (rdOf ByteArray.empty l2 x76_4).toList) == ((rd (rd_L3 t109 0) x71_3) == (rd (rd_L3 t109 2) x76_4))) = true := by simpa using c51))
                                            clear c51
                                            by_cases c53 : ((Op.bytesLess ((rdOf ByteArray.empty l0 x71_3).toList) ((rdOf ByteArray.empty l2 x76_4).toList)) != (decide ((rd (rd_L3 t109 0) x71_3) < (rd (rd_L3 t109 2) x76_4)))) = true
                                            · rw [if_pos c53] at H
                                              have c53b0 : ((Op.bytesLess ((rdOf ByteArray.empty l0 x71_3).toList) ((rdOf ByteArray.empty l2 x76_4).toList)) != (decide ((rd (rd_L3 t109 0) x71_3) < (rd (rd_L3 t109 2) x76_4)))) = true := c53
                                              (try (have c53b1 : decide ((Op.bytesLess ((rdOf ByteArray.empty l0 x71_3).toList) ((rdOf ByteArray.empty l2 x76_4).toList)) = (decide ((rd (rd_L3 t109 0) x71_3) < (rd (rd_L3 t109 2) x76_4)))) = false := by simpa using c53))
                                              (try (have c53b2 : ((Op.bytesLess ((rdOf ByteArray.empty l0 x71_3).toList) ((rdOf ByteArray.empty l2 x76_4).toList)) == (decide ((rd (rd_L3 t109 0) x71_3) < (rd (rd_L3 t109 2) x76_4)))) = false := by simpa using c53))
                                              (try (have c53b3 : ¬ ((Op.bytesLess ((rdOf ByteArray.empty l0 x71_3).toList) ((rdOf ByteArray.empty l2 x76_4).toList)) = (decide ((rd (rd_L3 t109 0) x71_3) < (rd (rd_L3 t109 2) x76_4)))) := by simpa using c53))
                                              clear c53
                                              obtain rfl := Option.some.inj H
                                              have p118 : 0 ≤ (x71_3 : Int) := of_decide_eq_true (by first | (with_reducible assumption) | assumption)
                                              have q118 : x71_3 < (l0.length : Int) := of_decide_eq_true (by first | (with_reducible assumption) | assumption)
                                              obtain ⟨ad118, e118, hx118_0⟩ := Kd.at_string (Kd.V_reads' HO_0.out).2.2 x71_3 p118 q118
                                              cases e118
                                              replace p118 := eq_true p118
                                              replace q118 := eq_true q118
                                              have p119 : 0 ≤ (x76_4 : Int) := of_decide_eq_true (by first | (with_reducible assumption) | assumption)
                                              have q119 : x76_4 < (l2.length : Int) := of_decide_eq_true (by first | (with_reducible assumption) | assumption)
                                              obtain ⟨ad119, e119, hx119_0⟩ := Kd.at_string (Kd.V_reads' HO_2.out).2.2 x76_4 p119 q119
                                              cases e119
                                              replace p119 := eq_true p119
                                              replace q119 := eq_true q119
                                              obtain ⟨Ao54, co54, eo54⟩ := Kd.N_slice HO_7.out
                                              subst eo54
                                              have p120 : 0 ≤ (0 : Int) := (by omega)
                                              have q120 : 0 < (t109.length : Int) := of_decide_eq_true (by first | (with_reducible assumption) | assumption)
                                              obtain ⟨ad120, A120_0, c120_0, e120, hx120_0, hl120_0, hi120_0⟩ := at_L3 (Kd.N_reads' HO_7.out).2.2 0 p120 q120
                                              cases e120
                                              obtain ⟨ce120, hce120, hMe120, hcc120⟩ := Kd.N_get HO_7.out [] 0 p120 (by first | exact q120 | exact of_decide_eq_true (by first | (with_reducible assumption) | assumption) | (have e_ := (Kd.N_reads' HO_7.out).1; omega))
                                              obtain ⟨ua120_0, uc120_0, rfl, ul120_0, ge120_0⟩ := Kd.FK_slice_open hMe120
                                              have hv120_0 := hcc120 0 _ rfl
                                              rw [Nat.add_zero, show ((Kd.slice 3 (Kd.int .i64))).sz = 1 from rfl, Nat.mul_one] at hv120_0
                                              replace hv120_0 := Option.some.inj (hv120_0.symm.trans hx120_0)
                                              injection hv120_0 with hva_ hvn_ hvc_
                                              rw [hva_] at ge120_0
                                              rw [hvc_] at ul120_0
                                              have HL120_0 := Aside0.mk (show Kd.V (Kd.int .i64) 3 _ w.heap.size _ _ (rd_L3 t109 0) from Kd.V_mk ul120_0 ge120_0)
                                              clear hva_ hvn_ hvc_ ge120_0 ul120_0
                                              clear hcc120 hce120
                                              have qi120 : (0 < t109.length) = True := eq_true (by omega)
                                              (try rw [show ((0 : Int)).toNat = 0 from rfl] at hx120_0)
                                              (try rw [Addr.add_zero'] at hx120_0)
                                              have HR120_0 := Aside0.mk hi120_0
                                              have HC120_0 := Aside0.mk hl120_0
                                              clear hi120_0 hl120_0
                                              replace p120 := eq_true p120
                                              replace q120 := eq_true q120
                                              have p121 : 0 ≤ (x71_3 : Int) := of_decide_eq_true (by first | (with_reducible assumption) | assumption)
                                              have q121 : x71_3 < ((rd_L3 t109 0).length : Int) := of_decide_eq_true (by first | (with_reducible assumption) | assumption)
                                              obtain ⟨ad121, e121, hx121_0⟩ := Kd.at_int (by repeat (first | (with_reducible exact HR120_0.out) | (with_reducible refine Kd.C_alloc ?_ _) | (with_reducible refine Kd.C_drewN ?_ _) | (with_reducible refine Kd.C_drew ?_) | exact HR120_0.out)) x71_3 p121 q121
                                              cases e121
                                              replace p121 := eq_true p121
                                              replace q121 := eq_true q121
                                              have p122 : 0 ≤ (2 : Int) := (by omega)
                                              have q122 : 2 < (t109.length : Int) := of_decide_eq_true (by first | (with_reducible assumption) | assumption)
                                              obtain ⟨ad122, A122_0, c122_0, e122, hx122_0, hl122_0, hi122_0⟩ := at_L3 (Kd.N_reads' HO_7.out).2.2 2 p122 q122
                                              obtain rfl : ad120 = ad122 := (by injection e122)
                                              obtain ⟨ce122, hce122, hMe122, hcc122⟩ := Kd.N_get HO_7.out [] 2 p122 (by first | exact q122 | exact of_decide_eq_true (by first | (with_reducible assumption) | assumption) | (have e_ := (Kd.N_reads' HO_7.out).1; omega))
                                              obtain ⟨ua122_0, uc122_0, rfl, ul122_0, ge122_0⟩ := Kd.FK_slice_open hMe122
                                              have hv122_0 := hcc122 0 _ rfl
                                              rw [Nat.add_zero, show ((Kd.slice 3 (Kd.int .i64))).sz = 1 from rfl, Nat.mul_one] at hv122_0
                                              replace hv122_0 := Option.some.inj (hv122_0.symm.trans hx122_0)
                                              injection hv122_0 with hva_ hvn_ hvc_
                                              rw [hva_] at ge122_0
                                              rw [hvc_] at ul122_0
                                              have HL122_0 := Aside0.mk (show Kd.V (Kd.int .i64) 3 _ w.heap.size _ _ (rd_L3 t109 2) from Kd.V_mk ul122_0 ge122_0)
                                              clear hva_ hvn_ hvc_ ge122_0 ul122_0
                                              clear hcc122 hce122
                                              (try simp only [show (2 : Int).toNat = 2 from rfl, Nat.reduceMul, Nat.reduceEqDiff, Go.Addr.add, ↓reduceIte] at hx122_0)
                                              have qi122 : (2 < t109.length) = True := eq_true (by omega)
                                              (try rw [show ((2 : Int)).toNat = 2 from rfl] at hx122_0)
                                              have HR122_0 := Aside0.mk hi122_0
                                              have HC122_0 := Aside0.mk hl122_0
                                              clear hi122_0 hl122_0
                                              replace p122 := eq_true p122
                                              replace q122 := eq_true q122
                                              have p123 : 0 ≤ (x76_4 : Int) := of_decide_eq_true (by first | (with_reducible assumption) | assumption)
                                              have q123 : x76_4 < ((rd_L3 t109 2).length : Int) := of_decide_eq_true (by first | (with_reducible assumption) | assumption)
                                              obtain ⟨ad123, e123, hx123_0⟩ := Kd.at_int (by repeat (first | (with_reducible exact HR122_0.out) | (with_reducible refine Kd.C_alloc ?_ _) | (with_reducible refine Kd.C_drewN ?_ _) | (with_reducible refine Kd.C_drew ?_) | exact HR122_0.out)) x76_4 p123 q123
                                              cases e123
                                              replace p123 := eq_true p123
                                              replace q123 := eq_true q123
                                              have p124 : 0 ≤ (x71_3 : Int) := of_decide_eq_true (by first | (with_reducible assumption) | assumption)
                                              have q124 : x71_3 < (l0.length : Int) := of_decide_eq_true (by first | (with_reducible assumption) | assumption)
                                              obtain ⟨ad124, e124, hx124_0⟩ := Kd.at_string (Kd.V_reads' HO_0.out).2.2 x71_3 p124 q124
                                              obtain rfl : ad118 = ad124 := (by injection e124)
                                              replace p124 := eq_true p124
                                              replace q124 := eq_true q124
                                              have p125 : 0 ≤ (x76_4 : Int) := of_decide_eq_true (by first | (with_reducible assumption) | assumption)
                                              have q125 : x76_4 < (l2.length : Int) := of_decide_eq_true (by first | (with_reducible assumption) | assumption)
                                              obtain ⟨ad125, e125, hx125_0⟩ := Kd.at_string (Kd.V_reads' HO_2.out).2.2 x76_4 p125 q125
                                              obtain rfl : ad119 = ad125 := (by injection e125)
                                              replace p125 := eq_true p125
                                              replace q125 := eq_true q125
                                              have p126 : 0 ≤ (0 : Int) := (by omega)
                                              have q126 : 0 < (t109.length : Int) := of_decide_eq_true (by first | (with_reducible assumption) | assumption)
                                              obtain ⟨ad126, A126_0, c126_0, e126, hx126_0, hl126_0, hi126_0⟩ := at_L3 (Kd.N_reads' HO_7.out).2.2 0 p126 q126
                                              obtain rfl : ad120 = ad126 := (by injection e126)
                                              obtain ⟨ce126, hce126, hMe126, hcc126⟩ := Kd.N_get HO_7.out [] 0 p126 (by first | exact q126 | exact of_decide_eq_true (by first | (with_reducible assumption) | assumption) | (have e_ := (Kd.N_reads' HO_7.out).1; omega))
                                              obtain ⟨ua126_0, uc126_0, rfl, ul126_0, ge126_0⟩ := Kd.FK_slice_open hMe126
                                              have hv126_0 := hcc126 0 _ rfl
                                              rw [Nat.add_zero, show ((Kd.slice 3 (Kd.int .i64))).sz = 1 from rfl, Nat.mul_one] at hv126_0
                                              replace hv126_0 := Option.some.inj (hv126_0.symm.trans hx126_0)
                                              injection hv126_0 with hva_ hvn_ hvc_
                                              rw [hva_] at ge126_0
                                              rw [hvc_] at ul126_0
                                              have HL126_0 := Aside0.mk (show Kd.V (Kd.int .i64) 3 _ w.heap.size _ _ (rd_L3 t109 0) from Kd.V_mk ul126_0 ge126_0)
                                              clear hva_ hvn_ hvc_ ge126_0 ul126_0
                                              clear hcc126 hce126
                                              have qi126 : (0 < t109.length) = True := eq_true (by omega)
                                              (try rw [show ((0 : Int)).toNat = 0 from rfl] at hx126_0)
                                              (try rw [Addr.add_zero'] at hx126_0)
                                              have HR126_0 := Aside0.mk hi126_0
                                              have HC126_0 := Aside0.mk hl126_0
                                              clear hi126_0 hl126_0
                                              replace p126 := eq_true p126
                                              replace q126 := eq_true q126
                                              have ea_ := Option.some.inj (hx120_0.symm.trans hx126_0)
                                              injection ea_ with ea_ en_ ec_
                                              subst ea_
                                              subst ec_
                                              clear en_
                                              have p127 : 0 ≤ (x71_3 : Int) := of_decide_eq_true (by first | (with_reducible assumption) | assumption)
                                              have q127 : x71_3 < ((rd_L3 t109 0).length : Int) := of_decide_eq_true (by first | (with_reducible assumption) | assumption)
                                              obtain ⟨ad127, e127, hx127_0⟩ := Kd.at_int (by repeat (first | (with_reducible exact HR126_0.out) | (with_reducible refine Kd.C_alloc ?_ _) | (with_reducible refine Kd.C_drewN ?_ _) | (with_reducible refine Kd.C_drew ?_) | exact HR126_0.out)) x71_3 p127 q127
                                              cases e127
                                              replace p127 := eq_true p127
                                              replace q127 := eq_true q127
                                              have p128 : 0 ≤ (2 : Int) := (by omega)
                                              have q128 : 2 < (t109.length : Int) := of_decide_eq_true (by first | (with_reducible assumption) | assumption)
                                              obtain ⟨ad128, A128_0, c128_0, e128, hx128_0, hl128_0, hi128_0⟩ := at_L3 (Kd.N_reads' HO_7.out).2.2 2 p128 q128
                                              obtain rfl : ad120 = ad128 := (by injection e128)
                                              obtain ⟨ce128, hce128, hMe128, hcc128⟩ := Kd.N_get HO_7.out [] 2 p128 (by first | exact q128 | exact of_decide_eq_true (by first | (with_reducible assumption) | assumption) | (have e_ := (Kd.N_reads' HO_7.out).1; omega))
                                              obtain ⟨ua128_0, uc128_0, rfl, ul128_0, ge128_0⟩ := Kd.FK_slice_open hMe128
                                              have hv128_0 := hcc128 0 _ rfl
                                              rw [Nat.add_zero, show ((Kd.slice 3 (Kd.int .i64))).sz = 1 from rfl, Nat.mul_one] at hv128_0
                                              replace hv128_0 := Option.some.inj (hv128_0.symm.trans hx128_0)
                                              injection hv128_0 with hva_ hvn_ hvc_
                                              rw [hva_] at ge128_0
                                              rw [hvc_] at ul128_0
                                              have HL128_0 := Aside0.mk (show Kd.V (Kd.int .i64) 3 _ w.heap.size _ _ (rd_L3 t109 2) from Kd.V_mk ul128_0 ge128_0)
                                              clear hva_ hvn_ hvc_ ge128_0 ul128_0
                                              clear hcc128 hce128
                                              (try simp only [show (2 : Int).toNat = 2 from rfl, Nat.reduceMul, Nat.reduceEqDiff, Go.Addr.add, ↓reduceIte] at hx128_0)
                                              have qi128 : (2 < t109.length) = True := eq_true (by omega)
                                              (try rw [show ((2 : Int)).toNat = 2 from rfl] at hx128_0)
                                              have HR128_0 := Aside0.mk hi128_0
                                              have HC128_0 := Aside0.mk hl128_0
                                              clear hi128_0 hl128_0
                                              replace p128 := eq_true p128
                                              replace q128 := eq_true q128
                                              have ea_ := Option.some.inj (hx122_0.symm.trans hx128_0)
                                              injection ea_ with ea_ en_ ec_
                                              subst ea_
                                              subst ec_
                                              clear en_
                                              have p129 : 0 ≤ (x76_4 : Int) := of_decide_eq_true (by first | (with_reducible assumption) | assumption)
                                              have q129 : x76_4 < ((rd_L3 t109 2).length : Int) := of_decide_eq_true (by first | (with_reducible assumption) | assumption)
                                              obtain ⟨ad129, e129, hx129_0⟩ := Kd.at_int (by repeat (first | (with_reducible exact HR128_0.out) | (with_reducible refine Kd.C_alloc ?_ _) | (with_reducible refine Kd.C_drewN ?_ _) | (with_reducible refine Kd.C_drew ?_) | exact HR128_0.out)) x76_4 p129 q129
                                              cases e129
                                              replace p129 := eq_true p129
                                              replace q129 := eq_true q129
                                              go_wp2
                                              repeat (go_quiet (fail); try go_wp2)
                                              go_ret
                                              exact ⟨by first | rfl | (simp [errW_none, errW_some] <;> rfl) | (simp [*, errW_none, errW_some] <;> rfl), by repeat (first | (with_reducible first | exact HB.out | apply below_alloc | apply pw_below_drewN | apply below_drew1) | exact HB.out)⟩
                                            · rw [if_neg c53] at H
                                              have c53b0 : ((Op.bytesLess ((rdOf ByteArray.empty l0 x71_3).toList) ((rdOf ByteArray.empty l2 x76_4).toList)) != (decide ((rd (rd_L3 t109 0) x71_3) < (rd (rd_L3 t109 2) x76_4)))) = false := by simpa using c53
                                              (try (have c53b1 : decide ((Op.bytesLess ((rdOf ByteArray.empty l0 x71_3).toList) ((rdOf ByteArray.empty l2 x76_4).toList)) = (decide ((rd (rd_L3 t109 0) x71_3) < (rd (rd_L3 t109 2) x76_4)))) = true := by simpa using c53))
                                              (try (have c53b2 : ((Op.bytesLess ((rdOf ByteArray.empty l0 x71_3).toList) ((rdOf ByteArray.empty l2 x76_4).toList)) == (decide ((rd (rd_L3 t109 0) x71_3) < (rd (rd_L3 t109 2) x76_4)))) = true := by simpa using c53))
                                              clear c53
                                              have H' := Aside0.mk H
                                              clear H
                                              have p118 : 0 ≤ (x71_3 : Int) := of_decide_eq_true (by first | (with_reducible assumption) | assumption)
                                              have q118 : x71_3 < (l0.length : Int) := of_decide_eq_true (by first | (with_reducible assumption) | assumption)
                                              obtain ⟨ad118, e118, hx118_0⟩ := Kd.at_string (Kd.V_reads' HO_0.out).2.2 x71_3 p118 q118
                                              cases e118
                                              replace p118 := eq_true p118
                                              replace q118 := eq_true q118
                                              have p119 : 0 ≤ (x76_4 : Int) := of_decide_eq_true (by first | (with_reducible assumption) | assumption)
                                              have q119 : x76_4 < (l2.length : Int) := of_decide_eq_true (by first | (with_reducible assumption) | assumption)
                                              obtain ⟨ad119, e119, hx119_0⟩ := Kd.at_string (Kd.V_reads' HO_2.out).2.2 x76_4 p119 q119
                                              cases e119
                                              replace p119 := eq_true p119
                                              replace q119 := eq_true q119
                                              obtain ⟨Ao55, co55, eo55⟩ := Kd.N_slice HO_7.out
                                              subst eo55
                                              have p120 : 0 ≤ (0 : Int) := (by omega)
                                              have q120 : 0 < (t109.length : Int) := of_decide_eq_true (by first | (with_reducible assumption) | assumption)
                                              obtain ⟨ad120, A120_0, c120_0, e120, hx120_0, hl120_0, hi120_0⟩ := at_L3 (Kd.N_reads' HO_7.out).2.2 0 p120 q120
                                              cases e120
                                              obtain ⟨ce120, hce120, hMe120, hcc120⟩ := Kd.N_get HO_7.out [] 0 p120 (by first | exact q120 | exact of_decide_eq_true (by first | (with_reducible assumption) | assumption) | (have e_ := (Kd.N_reads' HO_7.out).1; omega))
                                              obtain ⟨ua120_0, uc120_0, rfl, ul120_0, ge120_0⟩ := Kd.FK_slice_open hMe120
                                              have hv120_0 := hcc120 0 _ rfl
                                              rw [Nat.add_zero, show ((Kd.slice 3 (Kd.int .i64))).sz = 1 from rfl, Nat.mul_one] at hv120_0
                                              replace hv120_0 := Option.some.inj (hv120_0.symm.trans hx120_0)
                                              injection hv120_0 with hva_ hvn_ hvc_
                                              rw [hva_] at ge120_0
                                              rw [hvc_] at ul120_0
                                              have HL120_0 := Aside0.mk (show Kd.V (Kd.int .i64) 3 _ w.heap.size _ _ (rd_L3 t109 0) from Kd.V_mk ul120_0 ge120_0)
                                              clear hva_ hvn_ hvc_ ge120_0 ul120_0
                                              clear hcc120 hce120
                                              have qi120 : (0 < t109.length) = True := eq_true (by omega)
                                              (try rw [show ((0 : Int)).toNat = 0 from rfl] at hx120_0)
                                              (try rw [Addr.add_zero'] at hx120_0)
                                              have HR120_0 := Aside0.mk hi120_0
                                              have HC120_0 := Aside0.mk hl120_0
                                              clear hi120_0 hl120_0
                                              replace p120 := eq_true p120
                                              replace q120 := eq_true q120
                                              have p121 : 0 ≤ (x71_3 : Int) := of_decide_eq_true (by first | (with_reducible assumption) | assumption)
                                              have q121 : x71_3 < ((rd_L3 t109 0).length : Int) := of_decide_eq_true (by first | (with_reducible assumption) | assumption)
                                              obtain ⟨ad121, e121, hx121_0⟩ := Kd.at_int (by repeat (first | (with_reducible exact HR120_0.out) | (with_reducible refine Kd.C_alloc ?_ _) | (with_reducible refine Kd.C_drewN ?_ _) | (with_reducible refine Kd.C_drew ?_) | exact HR120_0.out)) x71_3 p121 q121
                                              cases e121
                                              replace p121 := eq_true p121
                                              replace q121 := eq_true q121
                                              have p122 : 0 ≤ (2 : Int) := (by omega)
                                              have q122 : 2 < (t109.length : Int) := of_decide_eq_true (by first | (with_reducible assumption) | assumption)
                                              obtain ⟨ad122, A122_0, c122_0, e122, hx122_0, hl122_0, hi122_0⟩ := at_L3 (Kd.N_reads' HO_7.out).2.2 2 p122 q122
                                              obtain rfl : ad120 = ad122 := (by injection e122)
                                              obtain ⟨ce122, hce122, hMe122, hcc122⟩ := Kd.N_get HO_7.out [] 2 p122 (by first | exact q122 | exact of_decide_eq_true (by first | (with_reducible assumption) | assumption) | (have e_ := (Kd.N_reads' HO_7.out).1; omega))
                                              obtain ⟨ua122_0, uc122_0, rfl, ul122_0, ge122_0⟩ := Kd.FK_slice_open hMe122
                                              have hv122_0 := hcc122 0 _ rfl
                                              rw [Nat.add_zero, show ((Kd.slice 3 (Kd.int .i64))).sz = 1 from rfl, Nat.mul_one] at hv122_0
                                              replace hv122_0 := Option.some.inj (hv122_0.symm.trans hx122_0)
                                              injection hv122_0 with hva_ hvn_ hvc_
                                              rw [hva_] at ge122_0
                                              rw [hvc_] at ul122_0
                                              have HL122_0 := Aside0.mk (show Kd.V (Kd.int .i64) 3 _ w.heap.size _ _ (rd_L3 t109 2) from Kd.V_mk ul122_0 ge122_0)
                                              clear hva_ hvn_ hvc_ ge122_0 ul122_0
                                              clear hcc122 hce122
                                              (try simp only [show (2 : Int).toNat = 2 from rfl, Nat.reduceMul, Nat.reduceEqDiff, Go.Addr.add, ↓reduceIte] at hx122_0)
                                              have qi122 : (2 < t109.length) = True := eq_true (by omega)
                                              (try rw [show ((2 : Int)).toNat = 2 from rfl] at hx122_0)
                                              have HR122_0 := Aside0.mk hi122_0
                                              have HC122_0 := Aside0.mk hl122_0
                                              clear hi122_0 hl122_0
                                              replace p122 := eq_true p122
                                              replace q122 := eq_true q122
                                              have p123 : 0 ≤ (x76_4 : Int) := of_decide_eq_true (by first | (with_reducible assumption) | assumption)
                                              have q123 : x76_4 < ((rd_L3 t109 2).length : Int) := of_decide_eq_true (by first | (with_reducible assumption) | assumption)
                                              obtain ⟨ad123, e123, hx123_0⟩ := Kd.at_int (by repeat (first | (with_reducible exact HR122_0.out) | (with_reducible refine Kd.C_alloc ?_ _) | (with_reducible refine Kd.C_drewN ?_ _) | (with_reducible refine Kd.C_drew ?_) | exact HR122_0.out)) x76_4 p123 q123
                                              cases e123
                                              replace p123 := eq_true p123
                                              replace q123 := eq_true q123
                                              have p124 : 0 ≤ (x71_3 : Int) := of_decide_eq_true (by first | (with_reducible assumption) | assumption)
                                              have q124 : x71_3 < (l0.length : Int) := of_decide_eq_true (by first | (with_reducible assumption) | assumption)
                                              obtain ⟨ad124, e124, hx124_0⟩ := Kd.at_string (Kd.V_reads' HO_0.out).2.2 x71_3 p124 q124
                                              obtain rfl : ad118 = ad124 := (by injection e124)
                                              replace p124 := eq_true p124
                                              replace q124 := eq_true q124
                                              have p125 : 0 ≤ (x76_4 : Int) := of_decide_eq_true (by first | (with_reducible assumption) | assumption)
                                              have q125 : x76_4 < (l2.length : Int) := of_decide_eq_true (by first | (with_reducible assumption) | assumption)
                                              obtain ⟨ad125, e125, hx125_0⟩ := Kd.at_string (Kd.V_reads' HO_2.out).2.2 x76_4 p125 q125
                                              obtain rfl : ad119 = ad125 := (by injection e125)
                                              replace p125 := eq_true p125
                                              replace q125 := eq_true q125
                                              have p126 : 0 ≤ (0 : Int) := (by omega)
                                              have q126 : 0 < (t109.length : Int) := of_decide_eq_true (by first | (with_reducible assumption) | assumption)
                                              obtain ⟨ad126, A126_0, c126_0, e126, hx126_0, hl126_0, hi126_0⟩ := at_L3 (Kd.N_reads' HO_7.out).2.2 0 p126 q126
                                              obtain rfl : ad120 = ad126 := (by injection e126)
                                              obtain ⟨ce126, hce126, hMe126, hcc126⟩ := Kd.N_get HO_7.out [] 0 p126 (by first | exact q126 | exact of_decide_eq_true (by first | (with_reducible assumption) | assumption) | (have e_ := (Kd.N_reads' HO_7.out).1; omega))
                                              obtain ⟨ua126_0, uc126_0, rfl, ul126_0, ge126_0⟩ := Kd.FK_slice_open hMe126
                                              have hv126_0 := hcc126 0 _ rfl
                                              rw [Nat.add_zero, show ((Kd.slice 3 (Kd.int .i64))).sz = 1 from rfl, Nat.mul_one] at hv126_0
                                              replace hv126_0 := Option.some.inj (hv126_0.symm.trans hx126_0)
                                              injection hv126_0 with hva_ hvn_ hvc_
                                              rw [hva_] at ge126_0
                                              rw [hvc_] at ul126_0
                                              have HL126_0 := Aside0.mk (show Kd.V (Kd.int .i64) 3 _ w.heap.size _ _ (rd_L3 t109 0) from Kd.V_mk ul126_0 ge126_0)
                                              clear hva_ hvn_ hvc_ ge126_0 ul126_0
                                              clear hcc126 hce126
                                              have qi126 : (0 < t109.length) = True := eq_true (by omega)
                                              (try rw [show ((0 : Int)).toNat = 0 from rfl] at hx126_0)
                                              (try rw [Addr.add_zero'] at hx126_0)
                                              have HR126_0 := Aside0.mk hi126_0
                                              have HC126_0 := Aside0.mk hl126_0
                                              clear hi126_0 hl126_0
                                              replace p126 := eq_true p126
                                              replace q126 := eq_true q126
                                              have ea_ := Option.some.inj (hx120_0.symm.trans hx126_0)
                                              injection ea_ with ea_ en_ ec_
                                              subst ea_
                                              subst ec_
                                              clear en_
                                              have p127 : 0 ≤ (x71_3 : Int) := of_decide_eq_true (by first | (with_reducible assumption) | assumption)
                                              have q127 : x71_3 < ((rd_L3 t109 0).length : Int) := of_decide_eq_true (by first | (with_reducible assumption) | assumption)
                                              obtain ⟨ad127, e127, hx127_0⟩ := Kd.at_int (by repeat (first | (with_reducible exact HR126_0.out) | (with_reducible refine Kd.C_alloc ?_ _) | (with_reducible refine Kd.C_drewN ?_ _) | (with_reducible refine Kd.C_drew ?_) | exact HR126_0.out)) x71_3 p127 q127
                                              cases e127
                                              replace p127 := eq_true p127
                                              replace q127 := eq_true q127
                                              have p128 : 0 ≤ (2 : Int) := (by omega)
                                              have q128 : 2 < (t109.length : Int) := of_decide_eq_true (by first | (with_reducible assumption) | assumption)
                                              obtain ⟨ad128, A128_0, c128_0, e128, hx128_0, hl128_0, hi128_0⟩ := at_L3 (Kd.N_reads' HO_7.out).2.2 2 p128 q128
                                              obtain rfl : ad120 = ad128 := (by injection e128)
                                              obtain ⟨ce128, hce128, hMe128, hcc128⟩ := Kd.N_get HO_7.out [] 2 p128 (by first | exact q128 | exact of_decide_eq_true (by first | (with_reducible assumption) | assumption) | (have e_ := (Kd.N_reads' HO_7.out).1; omega))
                                              obtain ⟨ua128_0, uc128_0, rfl, ul128_0, ge128_0⟩ := Kd.FK_slice_open hMe128
                                              have hv128_0 := hcc128 0 _ rfl
                                              rw [Nat.add_zero, show ((Kd.slice 3 (Kd.int .i64))).sz = 1 from rfl, Nat.mul_one] at hv128_0
                                              replace hv128_0 := Option.some.inj (hv128_0.symm.trans hx128_0)
                                              injection hv128_0 with hva_ hvn_ hvc_
                                              rw [hva_] at ge128_0
                                              rw [hvc_] at ul128_0
                                              have HL128_0 := Aside0.mk (show Kd.V (Kd.int .i64) 3 _ w.heap.size _ _ (rd_L3 t109 2) from Kd.V_mk ul128_0 ge128_0)
                                              clear hva_ hvn_ hvc_ ge128_0 ul128_0
                                              clear hcc128 hce128
                                              (try simp only [show (2 : Int).toNat = 2 from rfl, Nat.reduceMul, Nat.reduceEqDiff, Go.Addr.add, ↓reduceIte] at hx128_0)
                                              have qi128 : (2 < t109.length) = True := eq_true (by omega)
                                              (try rw [show ((2 : Int)).toNat = 2 from rfl] at hx128_0)
                                              have HR128_0 := Aside0.mk hi128_0
                                              have HC128_0 := Aside0.mk hl128_0
                                              clear hi128_0 hl128_0
                                              replace p128 := eq_true p128
                                              replace q128 := eq_true q128
                                              have ea_ := Option.some.inj (hx122_0.symm.trans hx128_0)
                                              injection ea_ with ea_ en_ ec_
                                              subst ea_
                                              subst ec_
                                              clear en_
                                              have p129 : 0 ≤ (x76_4 : Int) := of_decide_eq_true (by first | (with_reducible assumption) | assumption)
                                              have q129 : x76_4 < ((rd_L3 t109 2).length : Int) := of_decide_eq_true (by first | (with_reducible assumption) | assumption)
                                              obtain ⟨ad129, e129, hx129_0⟩ := Kd.at_int (by repeat (first | (with_reducible exact HR128_0.out) | (with_reducible refine Kd.C_alloc ?_ _) | (with_reducible refine Kd.C_drewN ?_ _) | (with_reducible refine Kd.C_drew ?_) | exact HR128_0.out)) x76_4 p129 q129
                                              cases e129
                                              replace p129 := eq_true p129
                                              replace q129 := eq_true q129
                                              go_wp2
                                              repeat (go_quiet (fail); try go_wp2)
                                              go_roundg k4
                                              case measure => have := HJ3.out; have := HJ19.out; have := HK3.out; have := HK4.out; omega
                                              case rel => exact ⟨(wrap64 (x76_4 + 1)), (by first | rfl | (simp; done) | (simp [*]; done)), H', ⟨by have := HJ3.out; have := HJ19.out; have := HK3.out; have := HK4.out; omega⟩, ⟨by (with_reducible repeat (first | apply Kd.V_alloc | apply Kd.V_drewN | apply Kd.V_drew)); exact HO_0.out⟩, ⟨by (with_reducible repeat (first | apply Kd.V_alloc | apply Kd.V_drewN | apply Kd.V_drew)); exact HO_1.out⟩, ⟨by (with_reducible repeat (first | apply Kd.V_alloc | apply Kd.V_drewN | apply Kd.V_drew)); exact HO_2.out⟩, ⟨by (with_reducible repeat (first | apply Kd.N_alloc | apply Kd.N_drewN | apply Kd.N_drew)); exact HO_7.out⟩, ⟨by repeat (first | (with_reducible first | exact HB.out | apply below_alloc | apply pw_below_drewN | apply below_drew1) | exact HB.out)⟩⟩
                                        · rw [if_neg c50] at H
                                          exact absurd H (by simp)
                                      · rw [if_neg c49] at H
                                        exact absurd H (by simp)
                                    · rw [if_neg c48] at H
                                      exact absurd H (by simp)
                                  · rw [if_neg c47] at H
                                    exact absurd H (by simp)
                                · rw [if_neg c46] at H
                                  exact absurd H (by simp)
                              · rw [if_neg c45] at H
                                exact absurd H (by simp)
                            · rw [if_neg c44] at H
                              exact absurd H (by simp)
                          · rw [if_neg c43] at H
                            exact absurd H (by simp)
                        · rw [if_neg c42] at H
                          have c42b0 : decide (x76_4 < (l2.length : Int)) = false := decide_eq_false c42
                          clear c42
                          have H' := Aside0.mk H
                          clear H
                          go_wp2
                          repeat (go_quiet (fail); try go_wp2)
                          go_loopg [130] k4 (fun kq v130 w' => ∃ (x130_5 : Int), v130 = .int .i64 x130_5 ∧ Aside0 (emendationlaw03_TokenSame.l2 kq l0 l1 l2 t109 x71_3 (l0.length : Int) x71_3 (l1.length : Int) x130_5 = some r) ∧ Aside0 (kq ≤ k4) ∧ Aside0 (Kd.V Kd.string 9 w' w.heap.size (fun k_ => ((P0_ k_ ∨ P1_ k_ ∨ P2_ k_) ∨ w.heap.size ≤ k_) ∧ some k_ ≠ (v110 : Value).ownBlock) (.slice A0 l0.length c0) l0) ∧ Aside0 (Kd.V Kd.string 9 w' w.heap.size (fun k_ => ((P0_ k_ ∨ P1_ k_ ∨ P2_ k_) ∨ w.heap.size ≤ k_) ∧ some k_ ≠ (v110 : Value).ownBlock) (.slice A1 l1.length c1) l1) ∧ Aside0 (Kd.V Kd.string 9 w' w.heap.size (fun k_ => ((P0_ k_ ∨ P1_ k_ ∨ P2_ k_) ∨ w.heap.size ≤ k_) ∧ some k_ ≠ (v110 : Value).ownBlock) (.slice A2 l2.length c2) l2) ∧ Aside0 (Kd.N (Kd.slice 3 (Kd.int .i64)) 29 w' w.heap.size (fun k_ => ((P0_ k_ ∨ P1_ k_ ∨ P2_ k_) ∨ w.heap.size ≤ k_)) v110 t109) ∧ Aside0 (Below w.heap.size w w'))
                          case atStart => exact ⟨(0), (by first | rfl | (simp; done) | (simp [*]; done)), H', ⟨Nat.le_refl _⟩, ⟨by (with_reducible repeat (first | apply Kd.V_alloc | apply Kd.V_drewN | apply Kd.V_drew)); exact HO_0.out⟩, ⟨by (with_reducible repeat (first | apply Kd.V_alloc | apply Kd.V_drewN | apply Kd.V_drew)); exact HO_1.out⟩, ⟨by (with_reducible repeat (first | apply Kd.V_alloc | apply Kd.V_drewN | apply Kd.V_drew)); exact HO_2.out⟩, ⟨by (with_reducible repeat (first | apply Kd.N_alloc | apply Kd.N_drewN | apply Kd.N_drew)); exact HO_7.out⟩, ⟨by repeat (first | (with_reducible first | exact HB.out | apply below_alloc | apply pw_below_drewN | apply below_drew1) | exact HB.out)⟩⟩
                          case round =>
                            clear H'
                            try clear c1
                            try clear p1
                            try clear q1
                            try clear hx1
                            try clear qi1
                            try clear c2
                            try clear p2
                            try clear c3
                            try clear c4
                            try clear c5
                            try clear c6
                            try clear p6
                            try clear c8
                            try clear c10
                            try clear c11
                            try clear p11
                            try clear q11
                            try clear hx11
                            try clear qi11
                            try clear c12
                            try clear p12
                            try clear q12
                            try clear hx12
                            try clear qi12
                            try clear c16
                            try clear c23
                            try clear c25
                            try clear c25b0
                            try clear c25b1
                            try clear c26
                            try clear c26b0
                            try clear c26b1
                            try clear c27
                            try clear c27b0
                            try clear c27b1
                            try clear c27b2
                            try clear c28
                            try clear c28b0
                            try clear c28b1
                            try clear c29
                            try clear c29b0
                            try clear c29b1
                            try clear c29b2
                            try clear c30
                            try clear c30b0
                            try clear c30b1
                            try clear c31
                            try clear c31b0
                            try clear c31b1
                            try clear c31b2
                            try clear c40
                            try clear c41
                            try clear c41b0
                            try clear c42
                            try clear c42b0
                            try clear c43
                            try clear c43b0
                            try clear c44
                            try clear c44b0
                            try clear c45
                            try clear c45b0
                            try clear c46
                            try clear c46b0
                            try clear c47
                            try clear c47b0
                            try clear c47b1
                            try clear c48
                            try clear c48b0
                            try clear c49
                            try clear c49b0
                            try clear c49b1
                            try clear c50
                            try clear c50b0
                            try clear c51
                            try clear c51b0
                            try clear c51b1
                            try clear c51b2
                            try clear c53
                            try clear c53b0
                            try clear c53b1
                            try clear c53b2
                            try clear hx112_0
                            try clear hx113_0
                            try clear hx114_0
                            try clear hx118_0
                            try clear hx119_0
                            try clear hx120_0
                            try clear hx121_0
                            try clear hx122_0
                            try clear hx123_0
                            try clear hx124_0
                            try clear hx125_0
                            try clear hx126_0
                            try clear hx127_0
                            try clear hx128_0
                            try clear hx129_0
                            try clear p1
                            try clear p11
                            try clear p112
                            try clear p113
                            try clear p114
                            try clear p118
                            try clear p119
                            try clear p120
                            try clear p121
                            try clear p122
                            try clear p123
                            try clear p124
                            try clear p125
                            try clear p126
                            try clear p127
                            try clear p128
                            try clear p129
                            try clear p2
                            try clear q1
                            try clear q11
                            try clear q112
                            try clear q113
                            try clear q114
                            try clear q118
                            try clear q119
                            try clear q120
                            try clear q121
                            try clear q122
                            try clear q123
                            try clear q124
                            try clear q125
                            try clear q126
                            try clear q127
                            try clear q128
                            try clear q129
                            obtain ⟨x130_5, rfl, HA, HK5, HO_0, HO_1, HO_2, HO_7, HB⟩ := hrel
                            cases gk with
                            | zero => exact absurd HA.out (by simp [emendationlaw03_TokenSame.l2])
                            | succ k5 =>
                              have H := HA.out
                              clear HA
                              simp only [emendationlaw03_TokenSame.l2] at H
                              by_cases c56 : x130_5 < (l1.length : Int)
                              · rw [if_pos c56] at H
                                have c56b0 : decide (x130_5 < (l1.length : Int)) = true := decide_eq_true c56
                                clear c56
                                by_cases c57 : 0 ≤ x71_3
                                · rw [if_pos c57] at H
                                  have c57b0 : decide (0 ≤ x71_3) = true := decide_eq_true c57
                                  clear c57
                                  by_cases c58 : x71_3 < (l0.length : Int)
                                  · rw [if_pos c58] at H
                                    have c58b0 : decide (x71_3 < (l0.length : Int)) = true := decide_eq_true c58
                                    clear c58
                                    by_cases c59 : 0 ≤ x130_5
                                    · rw [if_pos c59] at H
                                      have c59b0 : decide (0 ≤ x130_5) = true := decide_eq_true c59
                                      clear c59
                                      by_cases c60 : x130_5 < (l1.length : Int)
                                      · rw [if_pos c60] at H
                                        have c60b0 : decide (x130_5 < (l1.length : Int)) = true := decide_eq_true c60
                                        clear c60
                                        by_cases c61 : 0 < (t109.length : Int)
                                        · rw [if_pos c61] at H
                                          have c61b0 : decide (0 < (t109.length : Int)) = true := decide_eq_true c61
                                          have c61b1 : decide (0 < t109.length) = true := decide_eq_true (by omega)
                                          clear c61
                                          by_cases c62 : x71_3 < ((rd_L3 t109 0).length : Int)
                                          · rw [if_pos c62] at H
                                            have c62b0 : decide (x71_3 < ((rd_L3 t109 0).length : Int)) = true := decide_eq_true c62
                                            clear c62
                                            by_cases c63 : 1 < (t109.length : Int)
                                            · rw [if_pos c63] at H
                                              have c63b0 : decide (1 < (t109.length : Int)) = true := decide_eq_true c63
                                              have c63b1 : decide (1 < t109.length) = true := decide_eq_true (by omega)
                                              clear c63
                                              by_cases c64 : x130_5 < ((rd_L3 t109 1).length : Int)
                                              · rw [if_pos c64] at H
                                                have c64b0 : decide (x130_5 < ((rd_L3 t109 1).length : Int)) = true := decide_eq_true c64
                                                clear c64
                                                by_cases c65 : (((rdOf ByteArray.empty l0 x71_3).toList == (rdOf ByteArray.empty l1 x130_5).toList) != ((rd (rd_L3 t109 0) x71_3) == (rd (rd_L3 t109 1) x130_5))) = true
                                                · rw [if_pos c65] at H
                                                  have c65b0 : (((rdOf ByteArray.empty l0 x71_3).toList == (rdOf ByteArray.empty l1 x130_5).toList) != ((rd (rd_L3 t109 0) x71_3) == (rd (rd_L3 t109 1) x130_5))) = true := c65
                                                  (try (have c65b1 : decide (((rdOf ByteArray.empty l0 x71_3).toList == (rdOf ByteArray.empty l1 x130_5).toList) = ((rd (rd_L3 t109 0) x71_3) == (rd (rd_L3 t109 1) x130_5))) = false := by simpa using c65))
                                                  (try (have c65b2 : (((rdOf ByteArray.empty l0 x71_3).toList == (rdOf ByteArray.empty l1 x130_5).toList) == ((rd (rd_L3 t109 0) x71_3) == (rd (rd_L3 t109 1) x130_5))) = false := by simpa using c65))
                                                  (try (have c65b3 : ¬ (((rdOf ByteArray.empty l0 x71_3).toList == (rdOf ByteArray.empty l1 x130_5).toList) = ((rd (rd_L3 t109 0) x71_3) == (rd (rd_L3 t109 1) x130_5))) := by simpa using c65))
                                                  clear c65
                                                  obtain rfl := Option.some.inj H
                                                  have p130 : 0 ≤ (x71_3 : Int) := of_decide_eq_true (by first | (with_reducible assumption) | assumption)
                                                  have q130 : x71_3 < (l0.length : Int) := of_decide_eq_true (by first | (with_reducible assumption) | assumption)
                                                  obtain ⟨ad130, e130, hx130_0⟩ := Kd.at_string (Kd.V_reads' HO_0.out).2.2 x71_3 p130 q130
                                                  cases e130
                                                  replace p130 := eq_true p130
                                                  replace q130 := eq_true q130
                                                  have p131 : 0 ≤ (x130_5 : Int) := of_decide_eq_true (by first | (with_reducible assumption) | assumption)
                                                  have q131 : x130_5 < (l1.length : Int) := of_decide_eq_true (by first | (with_reducible assumption) | assumption)
                                                  obtain ⟨ad131, e131, hx131_0⟩ := Kd.at_string (Kd.V_reads' HO_1.out).2.2 x130_5 p131 q131
                                                  cases e131
                                                  replace p131 := eq_true p131
                                                  replace q131 := eq_true q131
                                                  obtain ⟨Ao66, co66, eo66⟩ := Kd.N_slice HO_7.out
                                                  subst eo66
                                                  have p132 : 0 ≤ (0 : Int) := (by omega)
                                                  have q132 : 0 < (t109.length : Int) := of_decide_eq_true (by first | (with_reducible assumption) | assumption)
                                                  obtain ⟨ad132, A132_0, c132_0, e132, hx132_0, hl132_0, hi132_0⟩ := at_L3 (Kd.N_reads' HO_7.out).2.2 0 p132 q132
                                                  cases e132
                                                  obtain ⟨ce132, hce132, hMe132, hcc132⟩ := Kd.N_get HO_7.out [] 0 p132 (by first | exact q132 | exact of_decide_eq_true (by first | (with_reducible assumption) | assumption) | (have e_ := (Kd.N_reads' HO_7.out).1; omega))
                                                  obtain ⟨ua132_0, uc132_0, rfl, ul132_0, ge132_0⟩ := Kd.FK_slice_open hMe132
                                                  have hv132_0 := hcc132 0 _ rfl
                                                  rw [Nat.add_zero, show ((Kd.slice 3 (Kd.int .i64))).sz = 1 from rfl, Nat.mul_one] at hv132_0
                                                  replace hv132_0 := Option.some.inj (hv132_0.symm.trans hx132_0)
                                                  injection hv132_0 with hva_ hvn_ hvc_
                                                  rw [hva_] at ge132_0
                                                  rw [hvc_] at ul132_0
                                                  have HL132_0 := Aside0.mk (show Kd.V (Kd.int .i64) 3 _ w.heap.size _ _ (rd_L3 t109 0) from Kd.V_mk ul132_0 ge132_0)
                                                  clear hva_ hvn_ hvc_ ge132_0 ul132_0
                                                  clear hcc132 hce132
                                                  have qi132 : (0 < t109.length) = True := eq_true (by omega)
                                                  (try rw [show ((0 : Int)).toNat = 0 from rfl] at hx132_0)
                                                  (try rw [Addr.add_zero'] at hx132_0)
                                                  have HR132_0 := Aside0.mk hi132_0
                                                  have HC132_0 := Aside0.mk hl132_0
                                                  clear hi132_0 hl132_0
                                                  replace p132 := eq_true p132
                                                  replace q132 := eq_true q132
                                                  have p133 : 0 ≤ (x71_3 : Int) := of_decide_eq_true (by first | (with_reducible assumption) | assumption)
                                                  have q133 : x71_3 < ((rd_L3 t109 0).length : Int) := of_decide_eq_true (by first | (with_reducible assumption) | assumption)
                                                  obtain ⟨ad133, e133, hx133_0⟩ := Kd.at_int (by repeat (first | (with_reducible exact HR132_0.out) | (with_reducible refine Kd.C_alloc ?_ _) | (with_reducible refine Kd.C_drewN ?_ _) | (with_reducible refine Kd.C_drew ?_) | exact HR132_0.out)) x71_3 p133 q133
                                                  cases e133
                                                  replace p133 := eq_true p133
                                                  replace q133 := eq_true q133
                                                  have p134 : 0 ≤ (1 : Int) := (by omega)
                                                  have q134 : 1 < (t109.length : Int) := of_decide_eq_true (by first | (with_reducible assumption) | assumption)
                                                  obtain ⟨ad134, A134_0, c134_0, e134, hx134_0, hl134_0, hi134_0⟩ := at_L3 (Kd.N_reads' HO_7.out).2.2 1 p134 q134
                                                  obtain rfl : ad132 = ad134 := (by injection e134)
                                                  obtain ⟨ce134, hce134, hMe134, hcc134⟩ := Kd.N_get HO_7.out [] 1 p134 (by first | exact q134 | exact of_decide_eq_true (by first | (with_reducible assumption) | assumption) | (have e_ := (Kd.N_reads' HO_7.out).1; omega))
                                                  obtain ⟨ua134_0, uc134_0, rfl, ul134_0, ge134_0⟩ := Kd.FK_slice_open hMe134
                                                  have hv134_0 := hcc134 0 _ rfl
                                                  rw [Nat.add_zero, show ((Kd.slice 3 (Kd.int .i64))).sz = 1 from rfl, Nat.mul_one] at hv134_0
                                                  replace hv134_0 := Option.some.inj (hv134_0.symm.trans hx134_0)
                                                  injection hv134_0 with hva_ hvn_ hvc_
                                                  rw [hva_] at ge134_0
                                                  rw [hvc_] at ul134_0
                                                  have HL134_0 := Aside0.mk (show Kd.V (Kd.int .i64) 3 _ w.heap.size _ _ (rd_L3 t109 1) from Kd.V_mk ul134_0 ge134_0)
                                                  clear hva_ hvn_ hvc_ ge134_0 ul134_0
                                                  clear hcc134 hce134
                                                  (try simp only [show (1 : Int).toNat = 1 from rfl, Nat.reduceMul, Nat.reduceEqDiff, Go.Addr.add, ↓reduceIte] at hx134_0)
                                                  have qi134 : (1 < t109.length) = True := eq_true (by omega)
                                                  (try rw [show ((1 : Int)).toNat = 1 from rfl] at hx134_0)
                                                  have HR134_0 := Aside0.mk hi134_0
                                                  have HC134_0 := Aside0.mk hl134_0
                                                  clear hi134_0 hl134_0
                                                  replace p134 := eq_true p134
                                                  replace q134 := eq_true q134
                                                  have p135 : 0 ≤ (x130_5 : Int) := of_decide_eq_true (by first | (with_reducible assumption) | assumption)
                                                  have q135 : x130_5 < ((rd_L3 t109 1).length : Int) := of_decide_eq_true (by first | (with_reducible assumption) | assumption)
                                                  obtain ⟨ad135, e135, hx135_0⟩ := Kd.at_int (by repeat (first | (with_reducible exact HR134_0.out) | (with_reducible refine Kd.C_alloc ?_ _) | (with_reducible refine Kd.C_drewN ?_ _) | (with_reducible refine Kd.C_drew ?_) | exact HR134_0.out)) x130_5 p135 q135
                                                  cases e135
                                                  replace p135 := eq_true p135
                                                  replace q135 := eq_true q135
                                                  go_wp2
                                                  repeat (go_quiet (fail); try go_wp2)
                                                  go_ret
                                                  exact ⟨by first | rfl | (simp [errW_none, errW_some] <;> rfl) | (simp [*, errW_none, errW_some] <;> rfl), by repeat (first | (with_reducible first | exact HB.out | apply below_alloc | apply pw_below_drewN | apply below_drew1) | exact HB.out)⟩
                                                · rw [if_neg c65] at H
                                                  have c65b0 : (((rdOf ByteArray.empty l0 x71_3).toList == (rdOf ByteArray.empty l1 x130_5).toList) != ((rd (rd_L3 t109 0) x71_3) == (rd (rd_L3 t109 1) x130_5))) = false := by simpa using c65
                                                  (try (have c65b1 : decide (((rdOf ByteArray.empty l0 x71_3).toList == (rdOf ByteArray.empty l1 x130_5).toList) = ((rd (rd_L3 t109 0) x71_3) == (rd (rd_L3 t109 1) x130_5))) = true := by simpa using c65))
                                                  (try (have c65b2 : (((rdOf ByteArray.empty l0 x71_3).toList == (rdOf ByteArray.empty l1 x130_5).toList) == ((rd (rd_L3 t109 0) x71_3) == (rd (rd_L3 t109 1) x130_5))) = true := by simpa using c65))
                                                  clear c65
                                                  have H' := Aside0.mk H
                                                  clear H
                                                  have p130 : 0 ≤ (x71_3 : Int) := of_decide_eq_true (by first | (with_reducible assumption) | assumption)
                                                  have q130 : x71_3 < (l0.length : Int) := of_decide_eq_true (by first | (with_reducible assumption) | assumption)
                                                  obtain ⟨ad130, e130, hx130_0⟩ := Kd.at_string (Kd.V_reads' HO_0.out).2.2 x71_3 p130 q130
                                                  cases e130
                                                  replace p130 := eq_true p130
                                                  replace q130 := eq_true q130
                                                  have p131 : 0 ≤ (x130_5 : Int) := of_decide_eq_true (by first | (with_reducible assumption) | assumption)
                                                  have q131 : x130_5 < (l1.length : Int) := of_decide_eq_true (by first | (with_reducible assumption) | assumption)
                                                  obtain ⟨ad131, e131, hx131_0⟩ := Kd.at_string (Kd.V_reads' HO_1.out).2.2 x130_5 p131 q131
                                                  cases e131
                                                  replace p131 := eq_true p131
                                                  replace q131 := eq_true q131
                                                  obtain ⟨Ao67, co67, eo67⟩ := Kd.N_slice HO_7.out
                                                  subst eo67
                                                  have p132 : 0 ≤ (0 : Int) := (by omega)
                                                  have q132 : 0 < (t109.length : Int) := of_decide_eq_true (by first | (with_reducible assumption) | assumption)
                                                  obtain ⟨ad132, A132_0, c132_0, e132, hx132_0, hl132_0, hi132_0⟩ := at_L3 (Kd.N_reads' HO_7.out).2.2 0 p132 q132
                                                  cases e132
                                                  obtain ⟨ce132, hce132, hMe132, hcc132⟩ := Kd.N_get HO_7.out [] 0 p132 (by first | exact q132 | exact of_decide_eq_true (by first | (with_reducible assumption) | assumption) | (have e_ := (Kd.N_reads' HO_7.out).1; omega))
                                                  obtain ⟨ua132_0, uc132_0, rfl, ul132_0, ge132_0⟩ := Kd.FK_slice_open hMe132
                                                  have hv132_0 := hcc132 0 _ rfl
                                                  rw [Nat.add_zero, show ((Kd.slice 3 (Kd.int .i64))).sz = 1 from rfl, Nat.mul_one] at hv132_0
                                                  replace hv132_0 := Option.some.inj (hv132_0.symm.trans hx132_0)
                                                  injection hv132_0 with hva_ hvn_ hvc_
                                                  rw [hva_] at ge132_0
                                                  rw [hvc_] at ul132_0
                                                  have HL132_0 := Aside0.mk (show Kd.V (Kd.int .i64) 3 _ w.heap.size _ _ (rd_L3 t109 0) from Kd.V_mk ul132_0 ge132_0)
                                                  clear hva_ hvn_ hvc_ ge132_0 ul132_0
                                                  clear hcc132 hce132
                                                  have qi132 : (0 < t109.length) = True := eq_true (by omega)
                                                  (try rw [show ((0 : Int)).toNat = 0 from rfl] at hx132_0)
                                                  (try rw [Addr.add_zero'] at hx132_0)
                                                  have HR132_0 := Aside0.mk hi132_0
                                                  have HC132_0 := Aside0.mk hl132_0
                                                  clear hi132_0 hl132_0
                                                  replace p132 := eq_true p132
                                                  replace q132 := eq_true q132
                                                  have p133 : 0 ≤ (x71_3 : Int) := of_decide_eq_true (by first | (with_reducible assumption) | assumption)
                                                  have q133 : x71_3 < ((rd_L3 t109 0).length : Int) := of_decide_eq_true (by first | (with_reducible assumption) | assumption)
                                                  obtain ⟨ad133, e133, hx133_0⟩ := Kd.at_int (by repeat (first | (with_reducible exact HR132_0.out) | (with_reducible refine Kd.C_alloc ?_ _) | (with_reducible refine Kd.C_drewN ?_ _) | (with_reducible refine Kd.C_drew ?_) | exact HR132_0.out)) x71_3 p133 q133
                                                  cases e133
                                                  replace p133 := eq_true p133
                                                  replace q133 := eq_true q133
                                                  have p134 : 0 ≤ (1 : Int) := (by omega)
                                                  have q134 : 1 < (t109.length : Int) := of_decide_eq_true (by first | (with_reducible assumption) | assumption)
                                                  obtain ⟨ad134, A134_0, c134_0, e134, hx134_0, hl134_0, hi134_0⟩ := at_L3 (Kd.N_reads' HO_7.out).2.2 1 p134 q134
                                                  obtain rfl : ad132 = ad134 := (by injection e134)
                                                  obtain ⟨ce134, hce134, hMe134, hcc134⟩ := Kd.N_get HO_7.out [] 1 p134 (by first | exact q134 | exact of_decide_eq_true (by first | (with_reducible assumption) | assumption) | (have e_ := (Kd.N_reads' HO_7.out).1; omega))
                                                  obtain ⟨ua134_0, uc134_0, rfl, ul134_0, ge134_0⟩ := Kd.FK_slice_open hMe134
                                                  have hv134_0 := hcc134 0 _ rfl
                                                  rw [Nat.add_zero, show ((Kd.slice 3 (Kd.int .i64))).sz = 1 from rfl, Nat.mul_one] at hv134_0
                                                  replace hv134_0 := Option.some.inj (hv134_0.symm.trans hx134_0)
                                                  injection hv134_0 with hva_ hvn_ hvc_
                                                  rw [hva_] at ge134_0
                                                  rw [hvc_] at ul134_0
                                                  have HL134_0 := Aside0.mk (show Kd.V (Kd.int .i64) 3 _ w.heap.size _ _ (rd_L3 t109 1) from Kd.V_mk ul134_0 ge134_0)
                                                  clear hva_ hvn_ hvc_ ge134_0 ul134_0
                                                  clear hcc134 hce134
                                                  (try simp only [show (1 : Int).toNat = 1 from rfl, Nat.reduceMul, Nat.reduceEqDiff, Go.Addr.add, ↓reduceIte] at hx134_0)
                                                  have qi134 : (1 < t109.length) = True := eq_true (by omega)
                                                  (try rw [show ((1 : Int)).toNat = 1 from rfl] at hx134_0)
                                                  have HR134_0 := Aside0.mk hi134_0
                                                  have HC134_0 := Aside0.mk hl134_0
                                                  clear hi134_0 hl134_0
                                                  replace p134 := eq_true p134
                                                  replace q134 := eq_true q134
                                                  have p135 : 0 ≤ (x130_5 : Int) := of_decide_eq_true (by first | (with_reducible assumption) | assumption)
                                                  have q135 : x130_5 < ((rd_L3 t109 1).length : Int) := of_decide_eq_true (by first | (with_reducible assumption) | assumption)
                                                  obtain ⟨ad135, e135, hx135_0⟩ := Kd.at_int (by repeat (first | (with_reducible exact HR134_0.out) | (with_reducible refine Kd.C_alloc ?_ _) | (with_reducible refine Kd.C_drewN ?_ _) | (with_reducible refine Kd.C_drew ?_) | exact HR134_0.out)) x130_5 p135 q135
                                                  cases e135
                                                  replace p135 := eq_true p135
                                                  replace q135 := eq_true q135
                                                  go_wp2
                                                  repeat (go_quiet (fail); try go_wp2)
                                                  go_roundg k5
                                                  case measure => have := HJ3.out; have := HJ19.out; have := HK3.out; have := HK4.out; have := HK5.out; omega
                                                  case rel => exact ⟨(wrap64 (x130_5 + 1)), (by first | rfl | (simp; done) | (simp [*]; done)), H', ⟨by have := HJ3.out; have := HJ19.out; have := HK3.out; have := HK4.out; have := HK5.out; omega⟩, ⟨by (with_reducible repeat (first | apply Kd.V_alloc | apply Kd.V_drewN | apply Kd.V_drew)); exact HO_0.out⟩, ⟨by (with_reducible repeat (first | apply Kd.V_alloc | apply Kd.V_drewN | apply Kd.V_drew)); exact HO_1.out⟩, ⟨by (with_reducible repeat (first | apply Kd.V_alloc | apply Kd.V_drewN | apply Kd.V_drew)); exact HO_2.out⟩, ⟨by (with_reducible repeat (first | apply Kd.N_alloc | apply Kd.N_drewN | apply Kd.N_drew)); exact HO_7.out⟩, ⟨by repeat (first | (with_reducible first | exact HB.out | apply below_alloc | apply pw_below_drewN | apply below_drew1) | exact HB.out)⟩⟩
                                              · rw [if_neg c64] at H
                                                exact absurd H (by simp)
                                            · rw [if_neg c63] at H
                                              exact absurd H (by simp)
                                          · rw [if_neg c62] at H
                                            exact absurd H (by simp)
                                        · rw [if_neg c61] at H
                                          exact absurd H (by simp)
                                      · rw [if_neg c60] at H
                                        exact absurd H (by simp)
                                    · rw [if_neg c59] at H
                                      exact absurd H (by simp)
                                  · rw [if_neg c58] at H
                                    exact absurd H (by simp)
                                · rw [if_neg c57] at H
                                  exact absurd H (by simp)
                              · rw [if_neg c56] at H
                                have c56b0 : decide (x130_5 < (l1.length : Int)) = false := decide_eq_false c56
                                clear c56
                                have H' := Aside0.mk H
                                clear H
                                go_wp2
                                repeat (go_quiet (fail); try go_wp2)
                                go_roundg k5
                                case measure => have := HJ3.out; have := HJ19.out; have := HK3.out; have := HK4.out; have := HK5.out; omega
                                case rel => exact ⟨(wrap64 (x71_3 + 1)), (by first | rfl | (simp; done) | (simp [*]; done)), H', ⟨by have := HJ3.out; have := HJ19.out; have := HK3.out; have := HK4.out; have := HK5.out; omega⟩, ⟨by (with_reducible repeat (first | apply Kd.V_alloc | apply Kd.V_drewN | apply Kd.V_drew)); exact HO_0.out⟩, ⟨by (with_reducible repeat (first | apply Kd.V_alloc | apply Kd.V_drewN | apply Kd.V_drew)); exact HO_1.out⟩, ⟨by (with_reducible repeat (first | apply Kd.V_alloc | apply Kd.V_drewN | apply Kd.V_drew)); exact HO_2.out⟩, ⟨by (with_reducible repeat (first | apply Kd.N_alloc | apply Kd.N_drewN | apply Kd.N_drew)); exact HO_7.out⟩, ⟨by repeat (first | (with_reducible first | exact HB.out | apply below_alloc | apply pw_below_drewN | apply below_drew1) | exact HB.out)⟩⟩
                  · rw [if_neg c41] at H
                    have c41b0 : decide (x71_3 < (l0.length : Int)) = false := decide_eq_false c41
                    clear c41
                    obtain rfl := Option.some.inj H
                    go_wp2
                    repeat (go_quiet (fail); try go_wp2)
                    go_ret
                    exact ⟨by first | rfl | (simp [errW_none, errW_some] <;> rfl) | (simp [*, errW_none, errW_some] <;> rfl), by repeat (first | (with_reducible first | exact HB.out | apply below_alloc | apply pw_below_drewN | apply below_drew1) | exact HB.out)⟩

end Go.Proofs.Ytlkgdfeeepiidaa.All
