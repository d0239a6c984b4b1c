-- Made by a program of this session (wip/mk.py) over the kit's printing program; Lean checks it.
import Derived.Test.YtlkgdfeeepiidaaF0
import Derived.Test.YtlkgdfeeepiidaaF26
import Derived.Test.YtlkgdfeeepiidaaF60
import Derived.Test.YtlkgdfeeepiidaaF47
import Derived.Test.YtlkgdfeeepiidaaF59
namespace Go.Proofs.Ytlkgdfeeepiidaa.All
open Go.RowKit Go.Proofs.YtlkgdfeeepiidaaW.PrintWords Go.Proofs.YtlkgdfeeepiidaaW.PrintLast Go.Proofs.YtlkgdfeeepiidaaW.PrintMore
attribute [local go_sem] max2_int min2_int max_two min_two max_three min_three max_four min_four   -- for this text's walks alone
set_option linter.unusedVariables false
set_option linter.unusedSimpArgs false

/-! ### emendationlaw03_TokenLists: function 24 -/
mutual
def emendationlaw03_TokenLists.j0 : Nat → List ByteArray → List ByteArray → Bool → Option (Bool)
  | 0, _, _, _ => none
  | k + 1, x0, x1, x25 => if x25 = true then ((emendationlaw03_awake.f k).bind fun t104 => (some t104)) else ((some (([] : List ByteArray) : List ByteArray)).bind fun y105 => (if y105.length + x0.length < 8796093022208 then ((some (y105 ++ x0 : List ByteArray)).bind fun y108 => (if y108.length + x1.length < 8796093022208 then ((some (y108 ++ x1 : List ByteArray)).bind fun y111 => (emendationlaw03_TokenLists.l0 k x0 x1 0 y111 (y111.length : Int) 0)) else (none))) else (none)))
def emendationlaw03_TokenLists.l0 : Nat → List ByteArray → List ByteArray → Int → List ByteArray → Int → Int → Option (Bool)
  | 0, _, _, _, _, _, _ => none
  | k + 1, x0, x1, x5, x6, x33, x34 => if x34 < x33 then (emendationlaw03_TokenLists.l1 k x0 x1 x5 x6 x34 true x33 x34 x34 0) else ((token_Ids.f k (([x0, x1, x0, x1] : List (List ByteArray)))).bind fun t119 => (if (t119.length : Int) = 4 then (if 0 < (t119.length : Int) then (if 2 < (t119.length : Int) then ((emendationref03_Same.f k (rd_L3 t119 0) (rd_L3 t119 2)).bind fun t124 => (if t124 = true then (if 1 < (t119.length : Int) then (if 3 < (t119.length : Int) then ((emendationref03_Same.f k (rd_L3 t119 1) (rd_L3 t119 3)).bind fun t127 => (emendationlaw03_TokenLists.j3 k x5 t119 (!t127))) else (none)) else (none)) else (emendationlaw03_TokenLists.j3 k x5 t119 true))) else (none)) else (none)) else (emendationlaw03_TokenLists.j3 k x5 t119 true)))
def emendationlaw03_TokenLists.l1 : Nat → List ByteArray → List ByteArray → Int → List ByteArray → Int → Bool → Int → Int → Int → Int → Option (Bool)
  | 0, _, _, _, _, _, _, _, _, _, _ => none
  | k + 1, x0, x1, x5, x6, x7, x8, x33, x34, x37, x38 => if x38 < x37 then (if x8 = true then (if 0 ≤ x38 then (if x38 < (x6.length : Int) then (if 0 ≤ x7 then (if x7 < (x6.length : Int) then (emendationlaw03_TokenLists.l1 k x0 x1 x5 x6 x7 ((rdOf ByteArray.empty x6 x38).toList != (rdOf ByteArray.empty x6 x7).toList) x33 x34 x37 (wrap64 (x38 + 1))) else (none)) else (none)) else (none)) else (none)) else (emendationlaw03_TokenLists.l1 k x0 x1 x5 x6 x7 false x33 x34 x37 (wrap64 (x38 + 1)))) else (if x8 = true then (emendationlaw03_TokenLists.l0 k x0 x1 (wrap64 (x5 + 1)) x6 x33 (wrap64 (x34 + 1))) else (emendationlaw03_TokenLists.l0 k x0 x1 x5 x6 x33 (wrap64 (x34 + 1))))
def emendationlaw03_TokenLists.j3 : Nat → Int → List (List Int) → Bool → Option (Bool)
  | 0, _, _, _ => none
  | k + 1, x5, x10, x86 => if x86 = true then (some false) else (emendationlaw03_TokenLists.l2 k x5 x10 (x10.length : Int) 0)
def emendationlaw03_TokenLists.l2 : Nat → Int → List (List Int) → Int → Int → Option (Bool)
  | 0, _, _, _, _ => none
  | k + 1, x5, x87, x88, x89 => if x89 < x88 then (if 0 ≤ x89 then (if x89 < (x87.length : Int) then (emendationlaw03_TokenLists.l3 k x5 (rd_L3 x87 x89) x87 x88 x89 ((rd_L3 x87 x89).length : Int) 0) else (none)) else (none)) else (some true)
def emendationlaw03_TokenLists.l3 : Nat → Int → List Int → List (List Int) → Int → Int → Int → Int → Option (Bool)
  | 0, _, _, _, _, _, _, _ => none
  | k + 1, x5, x12, x87, x88, x89, x94, x95 => if x95 < x94 then (if 0 ≤ x95 then (if x95 < (x12.length : Int) then (if (rd x12 x95) < 0 then (some false) else (if (rd x12 x95) ≥ x5 then (some false) else (emendationlaw03_TokenLists.l3 k x5 x12 x87 x88 x89 x94 (wrap64 (x95 + 1))))) else (none)) else (none)) else (emendationlaw03_TokenLists.l2 k x5 x87 x88 (wrap64 (x89 + 1)))
end
def emendationlaw03_TokenLists.f (k : Nat) (l0 : List ByteArray) (l1 : List ByteArray) : Option (Bool) := (emendationlaw03_awake.f k).bind fun t101 => (if t101 = true then ((emendationlaw03_few.f k l0).bind fun t102 => (if t102 = true then ((emendationlaw03_few.f k l1).bind fun t103 => (emendationlaw03_TokenLists.j0 k l0 l1 (!t103))) else (emendationlaw03_TokenLists.j0 k l0 l1 true))) else (emendationlaw03_TokenLists.j0 k l0 l1 true))
theorem emendationlaw03_TokenLists.mono_l : ∀ k, (∀ y0 y1 y2, LeO (emendationlaw03_TokenLists.j0 k y0 y1 y2) (emendationlaw03_TokenLists.j0 (k + 1) y0 y1 y2)) ∧ (∀ y0 y1 y2 y3 y4 y5, LeO (emendationlaw03_TokenLists.l0 k y0 y1 y2 y3 y4 y5) (emendationlaw03_TokenLists.l0 (k + 1) y0 y1 y2 y3 y4 y5)) ∧ (∀ y0 y1 y2 y3 y4 y5 y6 y7 y8 y9, LeO (emendationlaw03_TokenLists.l1 k y0 y1 y2 y3 y4 y5 y6 y7 y8 y9) (emendationlaw03_TokenLists.l1 (k + 1) y0 y1 y2 y3 y4 y5 y6 y7 y8 y9)) ∧ (∀ y0 y1 y2, LeO (emendationlaw03_TokenLists.j3 k y0 y1 y2) (emendationlaw03_TokenLists.j3 (k + 1) y0 y1 y2)) ∧ (∀ y0 y1 y2 y3, LeO (emendationlaw03_TokenLists.l2 k y0 y1 y2 y3) (emendationlaw03_TokenLists.l2 (k + 1) y0 y1 y2 y3)) ∧ (∀ y0 y1 y2 y3 y4 y5 y6, LeO (emendationlaw03_TokenLists.l3 k y0 y1 y2 y3 y4 y5 y6) (emendationlaw03_TokenLists.l3 (k + 1) y0 y1 y2 y3 y4 y5 y6))
  | 0 => ⟨fun _ _ _ r h => by simp [emendationlaw03_TokenLists.j0] at h, fun _ _ _ _ _ _ r h => by simp [emendationlaw03_TokenLists.l0] at h, fun _ _ _ _ _ _ _ _ _ _ r h => by simp [emendationlaw03_TokenLists.l1] at h, fun _ _ _ r h => by simp [emendationlaw03_TokenLists.j3] at h, fun _ _ _ _ r h => by simp [emendationlaw03_TokenLists.l2] at h, fun _ _ _ _ _ _ _ r h => by simp [emendationlaw03_TokenLists.l3] at h⟩
  | k + 1 => by
    obtain ⟨ih0, ih1, ih2, ih3, ih4, ih5⟩ := emendationlaw03_TokenLists.mono_l k
    refine ⟨?_, ?_, ?_, ?_, ?_, ?_⟩
    · intro y0 y1 y2
      unfold emendationlaw03_TokenLists.j0
      repeat' first
      | (with_reducible exact ih0 _ _ _)
      | (with_reducible exact ih1 _ _ _ _ _ _)
      | (with_reducible exact ih2 _ _ _ _ _ _ _ _ _ _)
      | (with_reducible exact ih3 _ _ _)
      | (with_reducible exact ih4 _ _ _ _)
      | (with_reducible exact ih5 _ _ _ _ _ _ _)
      | (with_reducible exact emendationlaw03_awake.mono _)
      | (with_reducible exact emendationlaw03_few.mono _ _)
      | (with_reducible exact emendationref03_Same.mono _ _ _)
      | (with_reducible exact token_Ids.mono _ _)
      | (with_reducible exact LeO.refl _)
      | (with_reducible exact LeO.none _)
      | (with_reducible refine LeO.ite ?_ ?_)
      | (with_reducible refine LeO.bind ?_ (fun _ => ?_))
      | exact ih0 _ _ _
      | exact ih1 _ _ _ _ _ _
      | exact ih2 _ _ _ _ _ _ _ _ _ _
      | exact ih3 _ _ _
      | exact ih4 _ _ _ _
      | exact ih5 _ _ _ _ _ _ _
      | exact emendationlaw03_awake.mono _
      | exact emendationlaw03_few.mono _ _
      | exact emendationref03_Same.mono _ _ _
      | exact token_Ids.mono _ _
      | exact LeO.none _
      | refine LeO.ite ?_ ?_
      | refine LeO.bind ?_ (fun _ => ?_)
    · intro y0 y1 y2 y3 y4 y5
      unfold emendationlaw03_TokenLists.l0
      repeat' first
      | (with_reducible exact ih0 _ _ _)
      | (with_reducible exact ih1 _ _ _ _ _ _)
      | (with_reducible exact ih2 _ _ _ _ _ _ _ _ _ _)
      | (with_reducible exact ih3 _ _ _)
      | (with_reducible exact ih4 _ _ _ _)
      | (with_reducible exact ih5 _ _ _ _ _ _ _)
      | (with_reducible exact emendationlaw03_awake.mono _)
      | (with_reducible exact emendationlaw03_few.mono _ _)
      | (with_reducible exact emendationref03_Same.mono _ _ _)
      | (with_reducible exact token_Ids.mono _ _)
      | (with_reducible exact LeO.refl _)
      | (with_reducible exact LeO.none _)
      | (with_reducible refine LeO.ite ?_ ?_)
      | (with_reducible refine LeO.bind ?_ (fun _ => ?_))
      | exact ih0 _ _ _
      | exact ih1 _ _ _ _ _ _
      | exact ih2 _ _ _ _ _ _ _ _ _ _
      | exact ih3 _ _ _
      | exact ih4 _ _ _ _
      | exact ih5 _ _ _ _ _ _ _
      | exact emendationlaw03_awake.mono _
      | exact emendationlaw03_few.mono _ _
      | exact emendationref03_Same.mono _ _ _
      | exact token_Ids.mono _ _
      | exact LeO.none _
      | refine LeO.ite ?_ ?_
      | refine LeO.bind ?_ (fun _ => ?_)
    · intro y0 y1 y2 y3 y4 y5 y6 y7 y8 y9
      unfold emendationlaw03_TokenLists.l1
      repeat' first
      | (with_reducible exact ih0 _ _ _)
      | (with_reducible exact ih1 _ _ _ _ _ _)
      | (with_reducible exact ih2 _ _ _ _ _ _ _ _ _ _)
      | (with_reducible exact ih3 _ _ _)
      | (with_reducible exact ih4 _ _ _ _)
      | (with_reducible exact ih5 _ _ _ _ _ _ _)
      | (with_reducible exact emendationlaw03_awake.mono _)
      | (with_reducible exact emendationlaw03_few.mono _ _)
      | (with_reducible exact emendationref03_Same.mono _ _ _)
      | (with_reducible exact token_Ids.mono _ _)
      | (with_reducible exact LeO.refl _)
      | (with_reducible exact LeO.none _)
      | (with_reducible refine LeO.ite ?_ ?_)
      | (with_reducible refine LeO.bind ?_ (fun _ => ?_))
      | exact ih0 _ _ _
      | exact ih1 _ _ _ _ _ _
      | exact ih2 _ _ _ _ _ _ _ _ _ _
      | exact ih3 _ _ _
      | exact ih4 _ _ _ _
      | exact ih5 _ _ _ _ _ _ _
      | exact emendationlaw03_awake.mono _
      | exact emendationlaw03_few.mono _ _
      | exact emendationref03_Same.mono _ _ _
      | exact token_Ids.mono _ _
      | exact LeO.none _
      | refine LeO.ite ?_ ?_
      | refine LeO.bind ?_ (fun _ => ?_)
    · intro y0 y1 y2
      unfold emendationlaw03_TokenLists.j3
      repeat' first
      | (with_reducible exact ih0 _ _ _)
      | (with_reducible exact ih1 _ _ _ _ _ _)
      | (with_reducible exact ih2 _ _ _ _ _ _ _ _ _ _)
      | (with_reducible exact ih3 _ _ _)
      | (with_reducible exact ih4 _ _ _ _)
      | (with_reducible exact ih5 _ _ _ _ _ _ _)
      | (with_reducible exact emendationlaw03_awake.mono _)
      | (with_reducible exact emendationlaw03_few.mono _ _)
      | (with_reducible exact emendationref03_Same.mono _ _ _)
      | (with_reducible exact token_Ids.mono _ _)
      | (with_reducible exact LeO.refl _)
      | (with_reducible exact LeO.none _)
      | (with_reducible refine LeO.ite ?_ ?_)
      | (with_reducible refine LeO.bind ?_ (fun _ => ?_))
      | exact ih0 _ _ _
      | exact ih1 _ _ _ _ _ _
      | exact ih2 _ _ _ _ _ _ _ _ _ _
      | exact ih3 _ _ _
      | exact ih4 _ _ _ _
      | exact ih5 _ _ _ _ _ _ _
      | exact emendationlaw03_awake.mono _
      | exact emendationlaw03_few.mono _ _
      | exact emendationref03_Same.mono _ _ _
      | exact token_Ids.mono _ _
      | exact LeO.none _
      | refine LeO.ite ?_ ?_
      | refine LeO.bind ?_ (fun _ => ?_)
    · intro y0 y1 y2 y3
      unfold emendationlaw03_TokenLists.l2
      repeat' first
      | (with_reducible exact ih0 _ _ _)
      | (with_reducible exact ih1 _ _ _ _ _ _)
      | (with_reducible exact ih2 _ _ _ _ _ _ _ _ _ _)
      | (with_reducible exact ih3 _ _ _)
      | (with_reducible exact ih4 _ _ _ _)
      | (with_reducible exact ih5 _ _ _ _ _ _ _)
      | (with_reducible exact emendationlaw03_awake.mono _)
      | (with_reducible exact emendationlaw03_few.mono _ _)
      | (with_reducible exact emendationref03_Same.mono _ _ _)
      | (with_reducible exact token_Ids.mono _ _)
      | (with_reducible exact LeO.refl _)
      | (with_reducible exact LeO.none _)
      | (with_reducible refine LeO.ite ?_ ?_)
      | (with_reducible refine LeO.bind ?_ (fun _ => ?_))
      | exact ih0 _ _ _
      | exact ih1 _ _ _ _ _ _
      | exact ih2 _ _ _ _ _ _ _ _ _ _
      | exact ih3 _ _ _
      | exact ih4 _ _ _ _
      | exact ih5 _ _ _ _ _ _ _
      | exact emendationlaw03_awake.mono _
      | exact emendationlaw03_few.mono _ _
      | exact emendationref03_Same.mono _ _ _
      | exact token_Ids.mono _ _
      | exact LeO.none _
      | refine LeO.ite ?_ ?_
      | refine LeO.bind ?_ (fun _ => ?_)
    · intro y0 y1 y2 y3 y4 y5 y6
      unfold emendationlaw03_TokenLists.l3
      repeat' first
      | (with_reducible exact ih0 _ _ _)
      | (with_reducible exact ih1 _ _ _ _ _ _)
      | (with_reducible exact ih2 _ _ _ _ _ _ _ _ _ _)
      | (with_reducible exact ih3 _ _ _)
      | (with_reducible exact ih4 _ _ _ _)
      | (with_reducible exact ih5 _ _ _ _ _ _ _)
      | (with_reducible exact emendationlaw03_awake.mono _)
      | (with_reducible exact emendationlaw03_few.mono _ _)
      | (with_reducible exact emendationref03_Same.mono _ _ _)
      | (with_reducible exact token_Ids.mono _ _)
      | (with_reducible exact LeO.refl _)
      | (with_reducible exact LeO.none _)
      | (with_reducible refine LeO.ite ?_ ?_)
      | (with_reducible refine LeO.bind ?_ (fun _ => ?_))
      | exact ih0 _ _ _
      | exact ih1 _ _ _ _ _ _
      | exact ih2 _ _ _ _ _ _ _ _ _ _
      | exact ih3 _ _ _
      | exact ih4 _ _ _ _
      | exact ih5 _ _ _ _ _ _ _
      | exact emendationlaw03_awake.mono _
      | exact emendationlaw03_few.mono _ _
      | exact emendationref03_Same.mono _ _ _
      | exact token_Ids.mono _ _
      | exact LeO.none _
      | refine LeO.ite ?_ ?_
      | refine LeO.bind ?_ (fun _ => ?_)
theorem emendationlaw03_TokenLists.mono : ∀ a0 a1 k, LeO (emendationlaw03_TokenLists.f k a0 a1) (emendationlaw03_TokenLists.f (k + 1) a0 a1) := by
  intro a0 a1 k
  obtain ⟨ih0, ih1, ih2, ih3, ih4, ih5⟩ := emendationlaw03_TokenLists.mono_l k
  unfold emendationlaw03_TokenLists.f
  repeat' first
      | (with_reducible exact ih0 _ _ _)
      | (with_reducible exact ih1 _ _ _ _ _ _)
      | (with_reducible exact ih2 _ _ _ _ _ _ _ _ _ _)
      | (with_reducible exact ih3 _ _ _)
      | (with_reducible exact ih4 _ _ _ _)
      | (with_reducible exact ih5 _ _ _ _ _ _ _)
      | (with_reducible exact emendationlaw03_awake.mono _)
      | (with_reducible exact emendationlaw03_few.mono _ _)
      | (with_reducible exact emendationref03_Same.mono _ _ _)
      | (with_reducible exact token_Ids.mono _ _)
      | (with_reducible exact LeO.refl _)
      | (with_reducible exact LeO.none _)
      | (with_reducible refine LeO.ite ?_ ?_)
      | (with_reducible refine LeO.bind ?_ (fun _ => ?_))
      | exact ih0 _ _ _
      | exact ih1 _ _ _ _ _ _
      | exact ih2 _ _ _ _ _ _ _ _ _ _
      | exact ih3 _ _ _
      | exact ih4 _ _ _ _
      | exact ih5 _ _ _ _ _ _ _
      | exact emendationlaw03_awake.mono _
      | exact emendationlaw03_few.mono _ _
      | exact emendationref03_Same.mono _ _ _
      | exact token_Ids.mono _ _
      | exact LeO.none _
      | refine LeO.ite ?_ ?_
      | refine LeO.bind ?_ (fun _ => ?_)
set_option maxHeartbeats 8000000 in
set_option maxRecDepth 100000 in
theorem emendationlaw03_TokenLists.calls (k : Nat) (P0_ : Nat → Prop) (A0 : Option Addr) (c0 : Nat) (l0 : List ByteArray) (P1_ : Nat → Prop) (A1 : Option Addr) (c1 : Nat) (l1 : List ByteArray) (r : Bool) (w : World) (hs0 : Kd.V Kd.string 9 w w.heap.size (fun k_ => P0_ k_) (.slice A0 l0.length c0) l0) (hs1 : Kd.V Kd.string 9 w w.heap.size (fun k_ => P1_ k_) (.slice A1 l1.length c1) l1) (h : emendationlaw03_TokenLists.f k l0 l1 = some r) :
    Calls Try.prog 24 #[.slice A0 l0.length c0, .slice A1 l1.length c1] w fun e w' => e = .returned (.bool r) ∧ Below w.heap.size w w' := by
  have HO0 := Aside0.mk (show Kd.V Kd.string 9 w w.heap.size (fun k_ => ((P0_ k_ ∨ P1_ k_) ∨ w.heap.size ≤ k_)) (.slice A0 l0.length c0) l0 from Kd.V_mono hs0 (fun k_ hk => .inl (.inl hk)))
  have HO1 := Aside0.mk (show Kd.V Kd.string 9 w w.heap.size (fun k_ => ((P0_ k_ ∨ P1_ k_) ∨ w.heap.size ≤ k_)) (.slice A1 l1.length c1) l1 from Kd.V_mono hs1 (fun k_ hk => .inl (.inr hk)))
  have HB := Aside0.mk (Below.refl w.heap.size w)
  have H : ((emendationlaw03_awake.f k).bind fun t101 => (if t101 = true then ((emendationlaw03_few.f k l0).bind fun t102 => (if t102 = true then ((emendationlaw03_few.f k l1).bind fun t103 => (emendationlaw03_TokenLists.j0 k l0 l1 (!t103))) else (emendationlaw03_TokenLists.j0 k l0 l1 true))) else (emendationlaw03_TokenLists.j0 k l0 l1 true))) = some r := h
  clear h
  have HC3 := Aside0.mk H
  clear H
  go_enter Try.func24, Try.ntmps24
  go_upto_region 1 with (fail)
  repeat (go_quiet (fail); go_upto_region 1 with (fail))
  go_cut [25] (fun v25 wc => ∃ (kq : Nat) (x25_2 : Bool), v25 = .bool x25_2 ∧ Aside0 (emendationlaw03_TokenLists.j0 kq l0 l1 x25_2 = some r) ∧ Aside0 (kq ≤ k) ∧ Aside0 (Kd.V Kd.string 9 wc w.heap.size (fun k_ => ((P0_ k_ ∨ P1_ k_) ∨ w.heap.size ≤ k_)) (.slice A0 l0.length c0) l0) ∧ Aside0 (Kd.V Kd.string 9 wc w.heap.size (fun k_ => ((P0_ k_ ∨ P1_ k_) ∨ w.heap.size ≤ k_)) (.slice A1 l1.length c1) l1) ∧ Aside0 (Below w.heap.size w wc))
  case first =>
    have H := HC3.out
    clear HC3
    replace H := Option.bind_eq_some_iff.mp H
    obtain ⟨t101, A40, H⟩ := H
    replace H : (if t101 = true then ((emendationlaw03_few.f k l0).bind fun t102 => (if t102 = true then ((emendationlaw03_few.f k l1).bind fun t103 => (emendationlaw03_TokenLists.j0 k l0 l1 (!t103))) else (emendationlaw03_TokenLists.j0 k l0 l1 true))) else (emendationlaw03_TokenLists.j0 k l0 l1 true)) = some r := H
    have A4 := Aside0.mk A40
    clear A40
    by_cases c5 : t101 = true
    · subst c5
      have H1 : ((emendationlaw03_few.f k l0).bind fun t102 => (if t102 = true then ((emendationlaw03_few.f k l1).bind fun t103 => (emendationlaw03_TokenLists.j0 k l0 l1 (!t103))) else (emendationlaw03_TokenLists.j0 k l0 l1 true))) = some r := by rw [if_pos rfl] at H; exact H
      clear H
      have H := H1
      clear H1
      replace H := Option.bind_eq_some_iff.mp H
      obtain ⟨t102, A60, H⟩ := H
      replace H : (if t102 = true then ((emendationlaw03_few.f k l1).bind fun t103 => (emendationlaw03_TokenLists.j0 k l0 l1 (!t103))) else (emendationlaw03_TokenLists.j0 k l0 l1 true)) = some r := H
      have A6 := Aside0.mk A60
      clear A60
      by_cases c7 : t102 = true
      · subst c7
        have H1 : ((emendationlaw03_few.f k l1).bind fun t103 => (emendationlaw03_TokenLists.j0 k l0 l1 (!t103))) = some r := by rw [if_pos rfl] at H; exact H
        clear H
        have H := H1
        clear H1
        replace H := Option.bind_eq_some_iff.mp H
        obtain ⟨t103, A80, H⟩ := H
        replace H : (emendationlaw03_TokenLists.j0 k l0 l1 (!t103)) = some r := H
        have A8 := Aside0.mk A80
        clear A80
        have H' := Aside0.mk H
        clear H
        go_wp2_with (first | (go_at_call 26; (with_reducible refine (emendationlaw03_awake.calls k  true _ A4.out).mono ?_); rintro e w9 ⟨rfl, hb⟩; have n0_ := Aside0.mk (Kd.V_below (by (with_reducible repeat (first | apply Kd.V_alloc | apply Kd.V_drewN | apply Kd.V_drew)); exact HO0.out) hb); have n1_ := Aside0.mk (Kd.V_below (by (with_reducible repeat (first | apply Kd.V_alloc | apply Kd.V_drewN | apply Kd.V_drew)); exact HO1.out) hb); have n2_ := Aside0.mk (below_step (by repeat (first | (with_reducible first | exact HB.out | apply below_alloc | apply pw_below_drewN | apply below_drew1) | exact HB.out)) hb); clear HO0; clear HO1; clear HB; have HO0 := n0_; have HO1 := n1_; have HB := n2_; clear n0_ n1_ n2_; (try clear hb); (try clear hb2); (try clear hk); (try clear hi)) | (go_at_call 47; (with_reducible refine (emendationlaw03_few.calls k _ _ l0 true _ ?side1 ?side2 A6.out).mono ?_); (case side1 => repeat (first | exact (Kd.V_reads' HO0.out).2.2 | (with_reducible refine Kd.C_alloc ?_ _) | (with_reducible refine Kd.C_drewN ?_ _) | (with_reducible refine Kd.C_drew ?_))); (case side2 => exact (Kd.V_reads' HO0.out).2.1); rintro e w' ⟨rfl, ⟨nd, rfl⟩⟩; (try first | exact ⟨rfl, _, World.drewN_drewN _ _ _⟩ | exact ⟨rfl, _, Eq.trans (World.drewN_drewN _ _ _) (congrArg (World.drewN _) (Nat.add_assoc _ _ _))⟩)) | (go_at_call 47; (with_reducible refine (emendationlaw03_few.calls k _ _ l1 t103 _ ?side1 ?side2 A8.out).mono ?_); (case side1 => repeat (first | exact (Kd.V_reads' HO1.out).2.2 | (with_reducible refine Kd.C_alloc ?_ _) | (with_reducible refine Kd.C_drewN ?_ _) | (with_reducible refine Kd.C_drew ?_))); (case side2 => exact (Kd.V_reads' HO1.out).2.1); rintro e w' ⟨rfl, ⟨nd, rfl⟩⟩; (try first | exact ⟨rfl, _, World.drewN_drewN _ _ _⟩ | exact ⟨rfl, _, Eq.trans (World.drewN_drewN _ _ _) (congrArg (World.drewN _) (Nat.add_assoc _ _ _))⟩)))
        repeat (go_quiet (first | (go_at_call 26; (with_reducible refine (emendationlaw03_awake.calls k  true _ A4.out).mono ?_); rintro e w9 ⟨rfl, hb⟩; have n0_ := Aside0.mk (Kd.V_below (by (with_reducible repeat (first | apply Kd.V_alloc | apply Kd.V_drewN | apply Kd.V_drew)); exact HO0.out) hb); have n1_ := Aside0.mk (Kd.V_below (by (with_reducible repeat (first | apply Kd.V_alloc | apply Kd.V_drewN | apply Kd.V_drew)); exact HO1.out) hb); have n2_ := Aside0.mk (below_step (by repeat (first | (with_reducible first | exact HB.out | apply below_alloc | apply pw_below_drewN | apply below_drew1) | exact HB.out)) hb); clear HO0; clear HO1; clear HB; have HO0 := n0_; have HO1 := n1_; have HB := n2_; clear n0_ n1_ n2_; (try clear hb); (try clear hb2); (try clear hk); (try clear hi)) | (go_at_call 47; (with_reducible refine (emendationlaw03_few.calls k _ _ l0 true _ ?side1 ?side2 A6.out).mono ?_); (case side1 => repeat (first | exact (Kd.V_reads' HO0.out).2.2 | (with_reducible refine Kd.C_alloc ?_ _) | (with_reducible refine Kd.C_drewN ?_ _) | (with_reducible refine Kd.C_drew ?_))); (case side2 => exact (Kd.V_reads' HO0.out).2.1); rintro e w' ⟨rfl, ⟨nd, rfl⟩⟩; (try first | exact ⟨rfl, _, World.drewN_drewN _ _ _⟩ | exact ⟨rfl, _, Eq.trans (World.drewN_drewN _ _ _) (congrArg (World.drewN _) (Nat.add_assoc _ _ _))⟩)) | (go_at_call 47; (with_reducible refine (emendationlaw03_few.calls k _ _ l1 t103 _ ?side1 ?side2 A8.out).mono ?_); (case side1 => repeat (first | exact (Kd.V_reads' HO1.out).2.2 | (with_reducible refine Kd.C_alloc ?_ _) | (with_reducible refine Kd.C_drewN ?_ _) | (with_reducible refine Kd.C_drew ?_))); (case side2 => exact (Kd.V_reads' HO1.out).2.1); rintro e w' ⟨rfl, ⟨nd, rfl⟩⟩; (try first | exact ⟨rfl, _, World.drewN_drewN _ _ _⟩ | exact ⟨rfl, _, Eq.trans (World.drewN_drewN _ _ _) (congrArg (World.drewN _) (Nat.add_assoc _ _ _))⟩))); try go_wp2_with (first | (go_at_call 26; (with_reducible refine (emendationlaw03_awake.calls k  true _ A4.out).mono ?_); rintro e w9 ⟨rfl, hb⟩; have n0_ := Aside0.mk (Kd.V_below (by (with_reducible repeat (first | apply Kd.V_alloc | apply Kd.V_drewN | apply Kd.V_drew)); exact HO0.out) hb); have n1_ := Aside0.mk (Kd.V_below (by (with_reducible repeat (first | apply Kd.V_alloc | apply Kd.V_drewN | apply Kd.V_drew)); exact HO1.out) hb); have n2_ := Aside0.mk (below_step (by repeat (first | (with_reducible first | exact HB.out | apply below_alloc | apply pw_below_drewN | apply below_drew1) | exact HB.out)) hb); clear HO0; clear HO1; clear HB; have HO0 := n0_; have HO1 := n1_; have HB := n2_; clear n0_ n1_ n2_; (try clear hb); (try clear hb2); (try clear hk); (try clear hi)) | (go_at_call 47; (with_reducible refine (emendationlaw03_few.calls k _ _ l0 true _ ?side1 ?side2 A6.out).mono ?_); (case side1 => repeat (first | exact (Kd.V_reads' HO0.out).2.2 | (with_reducible refine Kd.C_alloc ?_ _) | (with_reducible refine Kd.C_drewN ?_ _) | (with_reducible refine Kd.C_drew ?_))); (case side2 => exact (Kd.V_reads' HO0.out).2.1); rintro e w' ⟨rfl, ⟨nd, rfl⟩⟩; (try first | exact ⟨rfl, _, World.drewN_drewN _ _ _⟩ | exact ⟨rfl, _, Eq.trans (World.drewN_drewN _ _ _) (congrArg (World.drewN _) (Nat.add_assoc _ _ _))⟩)) | (go_at_call 47; (with_reducible refine (emendationlaw03_few.calls k _ _ l1 t103 _ ?side1 ?side2 A8.out).mono ?_); (case side1 => repeat (first | exact (Kd.V_reads' HO1.out).2.2 | (with_reducible refine Kd.C_alloc ?_ _) | (with_reducible refine Kd.C_drewN ?_ _) | (with_reducible refine Kd.C_drew ?_))); (case side2 => exact (Kd.V_reads' HO1.out).2.1); rintro e w' ⟨rfl, ⟨nd, rfl⟩⟩; (try first | exact ⟨rfl, _, World.drewN_drewN _ _ _⟩ | exact ⟨rfl, _, Eq.trans (World.drewN_drewN _ _ _) (congrArg (World.drewN _) (Nat.add_assoc _ _ _))⟩))))
        go_meet
        case rel => exact ⟨_, (!t103), (by first | rfl | (simp; done) | (simp [*]; done)), H', ⟨by first | omega | exact Nat.le_refl _⟩, ⟨by (with_reducible repeat (first | apply Kd.V_alloc | apply Kd.V_drewN | apply Kd.V_drew)); exact HO0.out⟩, ⟨by (with_reducible repeat (first | apply Kd.V_alloc | apply Kd.V_drewN | apply Kd.V_drew)); exact HO1.out⟩, ⟨by repeat (first | (with_reducible first | exact HB.out | apply below_alloc | apply pw_below_drewN | apply below_drew1) | exact HB.out)⟩⟩
      · replace c7 := Bool.eq_false_iff.mpr c7
        subst c7
        have H1 : (emendationlaw03_TokenLists.j0 k l0 l1 true) = some r := by rw [if_neg (show ¬ (false = true) by decide)] at H; exact H
        clear H
        have H := H1
        clear H1
        have H' := Aside0.mk H
        clear H
        go_wp2_with (first | (go_at_call 26; (with_reducible refine (emendationlaw03_awake.calls k  true _ A4.out).mono ?_); rintro e w10 ⟨rfl, hb⟩; have n0_ := Aside0.mk (Kd.V_below (by (with_reducible repeat (first | apply Kd.V_alloc | apply Kd.V_drewN | apply Kd.V_drew)); exact HO0.out) hb); have n1_ := Aside0.mk (Kd.V_below (by (with_reducible repeat (first | apply Kd.V_alloc | apply Kd.V_drewN | apply Kd.V_drew)); exact HO1.out) hb); have n2_ := Aside0.mk (below_step (by repeat (first | (with_reducible first | exact HB.out | apply below_alloc | apply pw_below_drewN | apply below_drew1) | exact HB.out)) hb); clear HO0; clear HO1; clear HB; have HO0 := n0_; have HO1 := n1_; have HB := n2_; clear n0_ n1_ n2_; (try clear hb); (try clear hb2); (try clear hk); (try clear hi)) | (go_at_call 47; (with_reducible refine (emendationlaw03_few.calls k _ _ l0 false _ ?side1 ?side2 A6.out).mono ?_); (case side1 => repeat (first | exact (Kd.V_reads' HO0.out).2.2 | (with_reducible refine Kd.C_alloc ?_ _) | (with_reducible refine Kd.C_drewN ?_ _) | (with_reducible refine Kd.C_drew ?_))); (case side2 => exact (Kd.V_reads' HO0.out).2.1); rintro e w' ⟨rfl, ⟨nd, rfl⟩⟩; (try first | exact ⟨rfl, _, World.drewN_drewN _ _ _⟩ | exact ⟨rfl, _, Eq.trans (World.drewN_drewN _ _ _) (congrArg (World.drewN _) (Nat.add_assoc _ _ _))⟩)))
        repeat (go_quiet (first | (go_at_call 26; (with_reducible refine (emendationlaw03_awake.calls k  true _ A4.out).mono ?_); rintro e w10 ⟨rfl, hb⟩; have n0_ := Aside0.mk (Kd.V_below (by (with_reducible repeat (first | apply Kd.V_alloc | apply Kd.V_drewN | apply Kd.V_drew)); exact HO0.out) hb); have n1_ := Aside0.mk (Kd.V_below (by (with_reducible repeat (first | apply Kd.V_alloc | apply Kd.V_drewN | apply Kd.V_drew)); exact HO1.out) hb); have n2_ := Aside0.mk (below_step (by repeat (first | (with_reducible first | exact HB.out | apply below_alloc | apply pw_below_drewN | apply below_drew1) | exact HB.out)) hb); clear HO0; clear HO1; clear HB; have HO0 := n0_; have HO1 := n1_; have HB := n2_; clear n0_ n1_ n2_; (try clear hb); (try clear hb2); (try clear hk); (try clear hi)) | (go_at_call 47; (with_reducible refine (emendationlaw03_few.calls k _ _ l0 false _ ?side1 ?side2 A6.out).mono ?_); (case side1 => repeat (first | exact (Kd.V_reads' HO0.out).2.2 | (with_reducible refine Kd.C_alloc ?_ _) | (with_reducible refine Kd.C_drewN ?_ _) | (with_reducible refine Kd.C_drew ?_))); (case side2 => exact (Kd.V_reads' HO0.out).2.1); rintro e w' ⟨rfl, ⟨nd, rfl⟩⟩; (try first | exact ⟨rfl, _, World.drewN_drewN _ _ _⟩ | exact ⟨rfl, _, Eq.trans (World.drewN_drewN _ _ _) (congrArg (World.drewN _) (Nat.add_assoc _ _ _))⟩))); try go_wp2_with (first | (go_at_call 26; (with_reducible refine (emendationlaw03_awake.calls k  true _ A4.out).mono ?_); rintro e w10 ⟨rfl, hb⟩; have n0_ := Aside0.mk (Kd.V_below (by (with_reducible repeat (first | apply Kd.V_alloc | apply Kd.V_drewN | apply Kd.V_drew)); exact HO0.out) hb); have n1_ := Aside0.mk (Kd.V_below (by (with_reducible repeat (first | apply Kd.V_alloc | apply Kd.V_drewN | apply Kd.V_drew)); exact HO1.out) hb); have n2_ := Aside0.mk (below_step (by repeat (first | (with_reducible first | exact HB.out | apply below_alloc | apply pw_below_drewN | apply below_drew1) | exact HB.out)) hb); clear HO0; clear HO1; clear HB; have HO0 := n0_; have HO1 := n1_; have HB := n2_; clear n0_ n1_ n2_; (try clear hb); (try clear hb2); (try clear hk); (try clear hi)) | (go_at_call 47; (with_reducible refine (emendationlaw03_few.calls k _ _ l0 false _ ?side1 ?side2 A6.out).mono ?_); (case side1 => repeat (first | exact (Kd.V_reads' HO0.out).2.2 | (with_reducible refine Kd.C_alloc ?_ _) | (with_reducible refine Kd.C_drewN ?_ _) | (with_reducible refine Kd.C_drew ?_))); (case side2 => exact (Kd.V_reads' HO0.out).2.1); rintro e w' ⟨rfl, ⟨nd, rfl⟩⟩; (try first | exact ⟨rfl, _, World.drewN_drewN _ _ _⟩ | exact ⟨rfl, _, Eq.trans (World.drewN_drewN _ _ _) (congrArg (World.drewN _) (Nat.add_assoc _ _ _))⟩))))
        go_meet
        case rel => exact ⟨_, (true), (by first | rfl | (simp; done) | (simp [*]; done)), H', ⟨by first | omega | exact Nat.le_refl _⟩, ⟨by (with_reducible repeat (first | apply Kd.V_alloc | apply Kd.V_drewN | apply Kd.V_drew)); exact HO0.out⟩, ⟨by (with_reducible repeat (first | apply Kd.V_alloc | apply Kd.V_drewN | apply Kd.V_drew)); exact HO1.out⟩, ⟨by repeat (first | (with_reducible first | exact HB.out | apply below_alloc | apply pw_below_drewN | apply below_drew1) | exact HB.out)⟩⟩
    · replace c5 := Bool.eq_false_iff.mpr c5
      subst c5
      have H1 : (emendationlaw03_TokenLists.j0 k l0 l1 true) = some r := by rw [if_neg (show ¬ (false = true) by decide)] at H; exact H
      clear H
      have H := H1
      clear H1
      have H' := Aside0.mk H
      clear H
      go_wp2_with (first | (go_at_call 26; (with_reducible refine (emendationlaw03_awake.calls k  false _ A4.out).mono ?_); rintro e w11 ⟨rfl, hb⟩; have n0_ := Aside0.mk (Kd.V_below (by (with_reducible repeat (first | apply Kd.V_alloc | apply Kd.V_drewN | apply Kd.V_drew)); exact HO0.out) hb); have n1_ := Aside0.mk (Kd.V_below (by (with_reducible repeat (first | apply Kd.V_alloc | apply Kd.V_drewN | apply Kd.V_drew)); exact HO1.out) hb); have n2_ := Aside0.mk (below_step (by repeat (first | (with_reducible first | exact HB.out | apply below_alloc | apply pw_below_drewN | apply below_drew1) | exact HB.out)) hb); clear HO0; clear HO1; clear HB; have HO0 := n0_; have HO1 := n1_; have HB := n2_; clear n0_ n1_ n2_; (try clear hb); (try clear hb2); (try clear hk); (try clear hi)))
      repeat (go_quiet (first | (go_at_call 26; (with_reducible refine (emendationlaw03_awake.calls k  false _ A4.out).mono ?_); rintro e w11 ⟨rfl, hb⟩; have n0_ := Aside0.mk (Kd.V_below (by (with_reducible repeat (first | apply Kd.V_alloc | apply Kd.V_drewN | apply Kd.V_drew)); exact HO0.out) hb); have n1_ := Aside0.mk (Kd.V_below (by (with_reducible repeat (first | apply Kd.V_alloc | apply Kd.V_drewN | apply Kd.V_drew)); exact HO1.out) hb); have n2_ := Aside0.mk (below_step (by repeat (first | (with_reducible first | exact HB.out | apply below_alloc | apply pw_below_drewN | apply below_drew1) | exact HB.out)) hb); clear HO0; clear HO1; clear HB; have HO0 := n0_; have HO1 := n1_; have HB := n2_; clear n0_ n1_ n2_; (try clear hb); (try clear hb2); (try clear hk); (try clear hi))); try go_wp2_with (first | (go_at_call 26; (with_reducible refine (emendationlaw03_awake.calls k  false _ A4.out).mono ?_); rintro e w11 ⟨rfl, hb⟩; have n0_ := Aside0.mk (Kd.V_below (by (with_reducible repeat (first | apply Kd.V_alloc | apply Kd.V_drewN | apply Kd.V_drew)); exact HO0.out) hb); have n1_ := Aside0.mk (Kd.V_below (by (with_reducible repeat (first | apply Kd.V_alloc | apply Kd.V_drewN | apply Kd.V_drew)); exact HO1.out) hb); have n2_ := Aside0.mk (below_step (by repeat (first | (with_reducible first | exact HB.out | apply below_alloc | apply pw_below_drewN | apply below_drew1) | exact HB.out)) hb); clear HO0; clear HO1; clear HB; have HO0 := n0_; have HO1 := n1_; have HB := n2_; clear n0_ n1_ n2_; (try clear hb); (try clear hb2); (try clear hk); (try clear hi))))
      go_meet
      case rel => exact ⟨_, (true), (by first | rfl | (simp; done) | (simp [*]; done)), H', ⟨by first | omega | exact Nat.le_refl _⟩, ⟨by (with_reducible repeat (first | apply Kd.V_alloc | apply Kd.V_drewN | apply Kd.V_drew)); exact HO0.out⟩, ⟨by (with_reducible repeat (first | apply Kd.V_alloc | apply Kd.V_drewN | apply Kd.V_drew)); exact HO1.out⟩, ⟨by repeat (first | (with_reducible first | exact HB.out | apply below_alloc | apply pw_below_drewN | apply below_drew1) | exact HB.out)⟩⟩
  case rest =>
    clear HC3
    try clear c1
    try clear c2
    try clear p2
    try clear c5
    try clear c7
    obtain ⟨kq, x25_2, rfl, HA, HJ2, HO_0, HO_1, HB⟩ := hcut
    cases kq with
    | zero => exact absurd HA.out (by simp [emendationlaw03_TokenLists.j0])
    | succ kj2 =>
      have H := HA.out
      clear HA
      simp only [emendationlaw03_TokenLists.j0] at H
      by_cases c12 : x25_2 = true
      · subst c12
        have H1 : ((emendationlaw03_awake.f kj2).bind fun t104 => (some t104)) = some r := by rw [if_pos rfl] at H; exact H
        clear H
        have H := H1
        clear H1
        replace H := Option.bind_eq_some_iff.mp H
        obtain ⟨t104, A130, H⟩ := H
        replace H : (some t104) = some r := H
        have A13 := Aside0.mk A130
        clear A130
        obtain rfl := Option.some.inj H
        go_wp2_with (first | (go_at_call 26; (with_reducible refine (emendationlaw03_awake.calls kj2  t104 _ A13.out).mono ?_); rintro e w14 ⟨rfl, hb⟩; have n0_ := Aside0.mk (Kd.V_below (by (with_reducible repeat (first | apply Kd.V_alloc | apply Kd.V_drewN | apply Kd.V_drew)); exact HO_0.out) hb); have n1_ := Aside0.mk (Kd.V_below (by (with_reducible repeat (first | apply Kd.V_alloc | apply Kd.V_drewN | apply Kd.V_drew)); exact HO_1.out) hb); have n2_ := Aside0.mk (below_step (by repeat (first | (with_reducible first | exact HB.out | apply below_alloc | apply pw_below_drewN | apply below_drew1) | exact HB.out)) hb); clear HO_0; clear HO_1; clear HB; have HO_0 := n0_; have HO_1 := n1_; have HB := n2_; clear n0_ n1_ n2_; (try clear hb); (try clear hb2); (try clear hk); (try clear hi)))
        repeat (go_quiet (first | (go_at_call 26; (with_reducible refine (emendationlaw03_awake.calls kj2  t104 _ A13.out).mono ?_); rintro e w14 ⟨rfl, hb⟩; have n0_ := Aside0.mk (Kd.V_below (by (with_reducible repeat (first | apply Kd.V_alloc | apply Kd.V_drewN | apply Kd.V_drew)); exact HO_0.out) hb); have n1_ := Aside0.mk (Kd.V_below (by (with_reducible repeat (first | apply Kd.V_alloc | apply Kd.V_drewN | apply Kd.V_drew)); exact HO_1.out) hb); have n2_ := Aside0.mk (below_step (by repeat (first | (with_reducible first | exact HB.out | apply below_alloc | apply pw_below_drewN | apply below_drew1) | exact HB.out)) hb); clear HO_0; clear HO_1; clear HB; have HO_0 := n0_; have HO_1 := n1_; have HB := n2_; clear n0_ n1_ n2_; (try clear hb); (try clear hb2); (try clear hk); (try clear hi))); try go_wp2_with (first | (go_at_call 26; (with_reducible refine (emendationlaw03_awake.calls kj2  t104 _ A13.out).mono ?_); rintro e w14 ⟨rfl, hb⟩; have n0_ := Aside0.mk (Kd.V_below (by (with_reducible repeat (first | apply Kd.V_alloc | apply Kd.V_drewN | apply Kd.V_drew)); exact HO_0.out) hb); have n1_ := Aside0.mk (Kd.V_below (by (with_reducible repeat (first | apply Kd.V_alloc | apply Kd.V_drewN | apply Kd.V_drew)); exact HO_1.out) hb); have n2_ := Aside0.mk (below_step (by repeat (first | (with_reducible first | exact HB.out | apply below_alloc | apply pw_below_drewN | apply below_drew1) | exact HB.out)) hb); clear HO_0; clear HO_1; clear HB; have HO_0 := n0_; have HO_1 := n1_; have HB := n2_; clear n0_ n1_ n2_; (try clear hb); (try clear hb2); (try clear hk); (try clear hi))))
        go_ret
        exact ⟨by first | rfl | (simp [errW_none, errW_some] <;> rfl) | (simp [*, errW_none, errW_some] <;> rfl), by repeat (first | (with_reducible first | exact HB.out | apply below_alloc | apply pw_below_drewN | apply below_drew1) | exact HB.out)⟩
      · replace c12 := Bool.eq_false_iff.mpr c12
        subst c12
        have H1 : ((some (([] : List ByteArray) : List ByteArray)).bind fun y105 => (if y105.length + l0.length < 8796093022208 then ((some (y105 ++ l0 : List ByteArray)).bind fun y108 => (if y108.length + l1.length < 8796093022208 then ((some (y108 ++ l1 : List ByteArray)).bind fun y111 => (emendationlaw03_TokenLists.l0 kj2 l0 l1 0 y111 (y111.length : Int) 0)) else (none))) else (none))) = some r := by rw [if_neg (show ¬ (false = true) by decide)] at H; exact H
        clear H
        have H := H1
        clear H1
        obtain ⟨y105, hy105⟩ : ∃ y_ : List ByteArray, y_ = (([] : List ByteArray)) := ⟨_, rfl⟩
        replace H : (if y105.length + l0.length < 8796093022208 then ((some (y105 ++ l0 : List ByteArray)).bind fun y108 => (if y108.length + l1.length < 8796093022208 then ((some (y108 ++ l1 : List ByteArray)).bind fun y111 => (emendationlaw03_TokenLists.l0 kj2 l0 l1 0 y111 (y111.length : Int) 0)) else (none))) else (none)) = some r := by first | (rw [hy105]; with_reducible exact H) | (have H2_ := (Option.bind_some _ _).symm.trans H; rw [hy105]; with_reducible exact H2_) | (have H2_ := (Option.bind_some _ _).symm.trans H; with_reducible exact H2_) | with_reducible exact H | (rw [hy105]; exact H) | exact H
        have Ny105 := Aside0.mk hy105
        clear hy105
        by_cases c15 : y105.length + l0.length < 8796093022208
        · rw [if_pos c15] at H
          have LMc15 := Aside0.mk c15
          clear c15
          obtain ⟨y108, hy108⟩ : ∃ y_ : List ByteArray, y_ = (y105 ++ l0) := ⟨_, rfl⟩
          replace H : (if y108.length + l1.length < 8796093022208 then ((some (y108 ++ l1 : List ByteArray)).bind fun y111 => (emendationlaw03_TokenLists.l0 kj2 l0 l1 0 y111 (y111.length : Int) 0)) else (none)) = some r := by first | (rw [hy108]; with_reducible exact H) | (have H2_ := (Option.bind_some _ _).symm.trans H; rw [hy108]; with_reducible exact H2_) | (have H2_ := (Option.bind_some _ _).symm.trans H; with_reducible exact H2_) | with_reducible exact H | (rw [hy108]; exact H) | exact H
          have Ny108 := Aside0.mk hy108
          clear hy108
          by_cases c16 : y108.length + l1.length < 8796093022208
          · rw [if_pos c16] at H
            have LMc16 := Aside0.mk c16
            clear c16
            obtain ⟨y111, hy111⟩ : ∃ y_ : List ByteArray, y_ = (y108 ++ l1) := ⟨_, rfl⟩
            replace H : (emendationlaw03_TokenLists.l0 kj2 l0 l1 0 y111 (y111.length : Int) 0) = some r := by first | (rw [hy111]; with_reducible exact H) | (have H2_ := (Option.bind_some _ _).symm.trans H; rw [hy111]; with_reducible exact H2_) | (have H2_ := (Option.bind_some _ _).symm.trans H; with_reducible exact H2_) | with_reducible exact H | (rw [hy111]; exact H) | exact H
            have Ny111 := Aside0.mk hy111
            clear hy111
            have H' := Aside0.mk H
            clear H
            go_wp2_with (first | ((with_reducible refine gate_dst (N := 27) rfl ?_); refine Kd.R_lit Kd.string _ 9 ?hg (N := 27) ?hd (xs := ([] : List ByteArray)) (inner := []) (ok := fun _ => True) (okp := fun _ => True) ?hr ?hp (fun _ hk => hk) trivial (Below.refl _ _) (Nat.le_refl _) (by simp) ?_; (case hd => rfl); (case hg => rfl); (case hr => first | (go_simp; done) | (go_simp; rfl)); (case hp => exact (Reps.none _ _)); intro v106 w17 ho18 hb hg_ hnew_; clear hg_ hnew_; (first | rw [← Ny105.out] at ho18 | (simp only [Int.reduceToNat] at ho18; rw [← Ny105.out] at ho18)); have n0_ := Aside0.mk (Kd.V_elder' (by (with_reducible repeat (first | apply Kd.V_alloc | apply Kd.V_drewN | apply Kd.V_drew)); exact HO_0.out) (Kd.R_base ho18) hb); have n1_ := Aside0.mk (Kd.V_elder' (by (with_reducible repeat (first | apply Kd.V_alloc | apply Kd.V_drewN | apply Kd.V_drew)); exact HO_1.out) (Kd.R_base ho18) hb); have n2_ := Aside0.mk (Kd.R_lower (Kd.R_newM (M := fun k_ => (w.heap.size ≤ k_)) ho18 (below_size (by repeat (first | (with_reducible first | exact HB.out | apply below_alloc | apply pw_below_drewN | apply below_drew1) | exact HB.out))) (fun k_ h_ => h_)) (below_size (by repeat (first | (with_reducible first | exact HB.out | apply below_alloc | apply pw_below_drewN | apply below_drew1) | exact HB.out)))); have n3_ := Aside0.mk (below_step (by repeat (first | (with_reducible first | exact HB.out | apply below_alloc | apply pw_below_drewN | apply below_drew1) | exact HB.out)) hb); clear HO_0; clear HO_1; clear HB; have HO_0 := n0_; have HO_1 := n1_; have HO107 := n2_; have HB := n3_; clear n0_ n1_ n2_ n3_; clear hb ho18) | ((with_reducible refine gate_builtin (b := .append) (xs := #[.tmp 27, .tmp 28]) rfl ?_); at_builtin; refine Kd.R_append_rows Kd.string (w0 := w) w.heap.size rfl (.tmp 27) (.tmp 28) 24 9 (.string ⟨#[]⟩) 16 rfl Try.underlying24 info9 rfl (by decide) (by omega) v106 y105 l0 _ _ _ (fun k_ => (w.heap.size ≤ k_)) (fun _ => False) rfl rfl ?aO ?aR (fun _ _ h => h) (fun _ h => h.elim) ?aF ?aB ?aS ?aL ?_; (case aR => repeat (first | exact (Kd.V_reads' HO_0.out).2.2 | (with_reducible refine Kd.C_alloc ?_ _) | (with_reducible refine Kd.C_drewN ?_ _) | (with_reducible refine Kd.C_drew ?_))); (case aB => exact (by repeat (first | (with_reducible first | exact HB.out | apply below_alloc | apply pw_below_drewN | apply below_drew1) | exact HB.out))); (case aF => exact (fun k_ hk => (Nat.le_trans (below_size (by repeat (first | (with_reducible first | exact HB.out | apply below_alloc | apply pw_below_drewN | apply below_drew1) | exact HB.out))) hk))); (case aO => exact (by (with_reducible repeat (first | apply Kd.R_alloc | apply Kd.R_drewN | apply Kd.R_drew)); exact Kd.R_mono HO107.out (fun _ hk => hk.1))); (case aS => exact (below_size (by repeat (first | (with_reducible first | exact HB.out | apply below_alloc | apply pw_below_drewN | apply below_drew1) | exact HB.out)))); (case aL => have := LMc15.out; omega); intro v109 w19 ho hb hg hat; rw [← Ny108.out] at ho; have n0_ := Aside0.mk (Kd.V_afterv (ok := (fun k_ => ((P0_ k_ ∨ P1_ k_) ∨ w.heap.size ≤ k_))) (by (with_reducible repeat (first | apply Kd.V_alloc | apply Kd.V_drewN | apply Kd.V_drew)); exact HO_0.out) hg hat); have n1_ := Aside0.mk (Kd.V_afterv (ok := (fun k_ => ((P0_ k_ ∨ P1_ k_) ∨ w.heap.size ≤ k_))) (by (with_reducible repeat (first | apply Kd.V_alloc | apply Kd.V_drewN | apply Kd.V_drew)); exact HO_1.out) hg hat); have n2_ := Aside0.mk (hb); have n3_ := Aside0.mk (ho); clear HO_0; clear HO_1; clear HB; clear HO107; have HO_0 := n0_; have HO_1 := n1_; have HB := n2_; have HO110 := n3_; clear n0_ n1_ n2_ n3_; clear ho hb hg hat) | ((with_reducible refine gate_builtin (b := .append) (xs := #[.tmp 29, .tmp 30]) rfl ?_); at_builtin; refine Kd.R_append_rows Kd.string (w0 := w) w.heap.size rfl (.tmp 29) (.tmp 30) 24 9 (.string ⟨#[]⟩) 16 rfl Try.underlying24 info9 rfl (by decide) (by omega) v109 y108 l1 _ _ _ (fun k_ => (w.heap.size ≤ k_)) (fun _ => False) rfl rfl ?aO ?aR (fun _ _ h => h) (fun _ h => h.elim) ?aF ?aB ?aS ?aL ?_; (case aR => repeat (first | exact (Kd.V_reads' HO_1.out).2.2 | (with_reducible refine Kd.C_alloc ?_ _) | (with_reducible refine Kd.C_drewN ?_ _) | (with_reducible refine Kd.C_drew ?_))); (case aB => exact (by repeat (first | (with_reducible first | exact HB.out | apply below_alloc | apply pw_below_drewN | apply below_drew1) | exact HB.out))); (case aF => exact (fun k_ hk => (Nat.le_trans (below_size (by repeat (first | (with_reducible first | exact HB.out | apply below_alloc | apply pw_below_drewN | apply below_drew1) | exact HB.out))) hk))); (case aO => exact (by (with_reducible repeat (first | apply Kd.R_alloc | apply Kd.R_drewN | apply Kd.R_drew)); exact HO110.out)); (case aS => exact (below_size (by repeat (first | (with_reducible first | exact HB.out | apply below_alloc | apply pw_below_drewN | apply below_drew1) | exact HB.out)))); (case aL => have := LMc16.out; omega); intro v112 w20 ho hb hg hat; rw [← Ny111.out] at ho; have n0_ := Aside0.mk (Kd.V_afterv (ok := (fun k_ => ((P0_ k_ ∨ P1_ k_) ∨ w.heap.size ≤ k_))) (by (with_reducible repeat (first | apply Kd.V_alloc | apply Kd.V_drewN | apply Kd.V_drew)); exact HO_0.out) hg hat); have n1_ := Aside0.mk (Kd.V_afterv (ok := (fun k_ => ((P0_ k_ ∨ P1_ k_) ∨ w.heap.size ≤ k_))) (by (with_reducible repeat (first | apply Kd.V_alloc | apply Kd.V_drewN | apply Kd.V_drew)); exact HO_1.out) hg hat); have n2_ := Aside0.mk (hb); have n3_ := Aside0.mk (ho); clear HO_0; clear HO_1; clear HB; clear HO110; have HO_0 := n0_; have HO_1 := n1_; have HB := n2_; have HO113 := n3_; clear n0_ n1_ n2_ n3_; clear ho hb hg hat; obtain ⟨Ao21, co21, eo21⟩ := Kd.R_slice HO113.out; subst eo21))
            repeat (go_quiet (first | ((with_reducible refine gate_dst (N := 27) rfl ?_); refine Kd.R_lit Kd.string _ 9 ?hg (N := 27) ?hd (xs := ([] : List ByteArray)) (inner := []) (ok := fun _ => True) (okp := fun _ => True) ?hr ?hp (fun _ hk => hk) trivial (Below.refl _ _) (Nat.le_refl _) (by simp) ?_; (case hd => rfl); (case hg => rfl); (case hr => first | (go_simp; done) | (go_simp; rfl)); (case hp => exact (Reps.none _ _)); intro v106 w17 ho18 hb hg_ hnew_; clear hg_ hnew_; (first | rw [← Ny105.out] at ho18 | (simp only [Int.reduceToNat] at ho18; rw [← Ny105.out] at ho18)); have n0_ := Aside0.mk (Kd.V_elder' (by (with_reducible repeat (first | apply Kd.V_alloc | apply Kd.V_drewN | apply Kd.V_drew)); exact HO_0.out) (Kd.R_base ho18) hb); have n1_ := Aside0.mk (Kd.V_elder' (by (with_reducible repeat (first | apply Kd.V_alloc | apply Kd.V_drewN | apply Kd.V_drew)); exact HO_1.out) (Kd.R_base ho18) hb); have n2_ := Aside0.mk (Kd.R_lower (Kd.R_newM (M := fun k_ => (w.heap.size ≤ k_)) ho18 (below_size (by repeat (first | (with_reducible first | exact HB.out | apply below_alloc | apply pw_below_drewN | apply below_drew1) | exact HB.out))) (fun k_ h_ => h_)) (below_size (by repeat (first | (with_reducible first | exact HB.out | apply below_alloc | apply pw_below_drewN | apply below_drew1) | exact HB.out)))); have n3_ := Aside0.mk (below_step (by repeat (first | (with_reducible first | exact HB.out | apply below_alloc | apply pw_below_drewN | apply below_drew1) | exact HB.out)) hb); clear HO_0; clear HO_1; clear HB; have HO_0 := n0_; have HO_1 := n1_; have HO107 := n2_; have HB := n3_; clear n0_ n1_ n2_ n3_; clear hb ho18) | ((with_reducible refine gate_builtin (b := .append) (xs := #[.tmp 27, .tmp 28]) rfl ?_); at_builtin; refine Kd.R_append_rows Kd.string (w0 := w) w.heap.size rfl (.tmp 27) (.tmp 28) 24 9 (.string ⟨#[]⟩) 16 rfl Try.underlying24 info9 rfl (by decide) (by omega) v106 y105 l0 _ _ _ (fun k_ => (w.heap.size ≤ k_)) (fun _ => False) rfl rfl ?aO ?aR (fun _ _ h => h) (fun _ h => h.elim) ?aF ?aB ?aS ?aL ?_; (case aR => repeat (first | exact (Kd.V_reads' HO_0.out).2.2 | (with_reducible refine Kd.C_alloc ?_ _) | (with_reducible refine Kd.C_drewN ?_ _) | (with_reducible refine Kd.C_drew ?_))); (case aB => exact (by repeat (first | (with_reducible first | exact HB.out | apply below_alloc | apply pw_below_drewN | apply below_drew1) | exact HB.out))); (case aF => exact (fun k_ hk => (Nat.le_trans (below_size (by repeat (first | (with_reducible first | exact HB.out | apply below_alloc | apply pw_below_drewN | apply below_drew1) | exact HB.out))) hk))); (case aO => exact (by (with_reducible repeat (first | apply Kd.R_alloc | apply Kd.R_drewN | apply Kd.R_drew)); exact Kd.R_mono HO107.out (fun _ hk => hk.1))); (case aS => exact (below_size (by repeat (first | (with_reducible first | exact HB.out | apply below_alloc | apply pw_below_drewN | apply below_drew1) | exact HB.out)))); (case aL => have := LMc15.out; omega); intro v109 w19 ho hb hg hat; rw [← Ny108.out] at ho; have n0_ := Aside0.mk (Kd.V_afterv (ok := (fun k_ => ((P0_ k_ ∨ P1_ k_) ∨ w.heap.size ≤ k_))) (by (with_reducible repeat (first | apply Kd.V_alloc | apply Kd.V_drewN | apply Kd.V_drew)); exact HO_0.out) hg hat); have n1_ := Aside0.mk (Kd.V_afterv (ok := (fun k_ => ((P0_ k_ ∨ P1_ k_) ∨ w.heap.size ≤ k_))) (by (with_reducible repeat (first | apply Kd.V_alloc | apply Kd.V_drewN | apply Kd.V_drew)); exact HO_1.out) hg hat); have n2_ := Aside0.mk (hb); have n3_ := Aside0.mk (ho); clear HO_0; clear HO_1; clear HB; clear HO107; have HO_0 := n0_; have HO_1 := n1_; have HB := n2_; have HO110 := n3_; clear n0_ n1_ n2_ n3_; clear ho hb hg hat) | ((with_reducible refine gate_builtin (b := .append) (xs := #[.tmp 29, .tmp 30]) rfl ?_); at_builtin; refine Kd.R_append_rows Kd.string (w0 := w) w.heap.size rfl (.tmp 29) (.tmp 30) 24 9 (.string ⟨#[]⟩) 16 rfl Try.underlying24 info9 rfl (by decide) (by omega) v109 y108 l1 _ _ _ (fun k_ => (w.heap.size ≤ k_)) (fun _ => False) rfl rfl ?aO ?aR (fun _ _ h => h) (fun _ h => h.elim) ?aF ?aB ?aS ?aL ?_; (case aR => repeat (first | exact (Kd.V_reads' HO_1.out).2.2 | (with_reducible refine Kd.C_alloc ?_ _) | (with_reducible refine Kd.C_drewN ?_ _) | (with_reducible refine Kd.C_drew ?_))); (case aB => exact (by repeat (first | (with_reducible first | exact HB.out | apply below_alloc | apply pw_below_drewN | apply below_drew1) | exact HB.out))); (case aF => exact (fun k_ hk => (Nat.le_trans (below_size (by repeat (first | (with_reducible first | exact HB.out | apply below_alloc | apply pw_below_drewN | apply below_drew1) | exact HB.out))) hk))); (case aO => exact (by (with_reducible repeat (first | apply Kd.R_alloc | apply Kd.R_drewN | apply Kd.R_drew)); exact HO110.out)); (case aS => exact (below_size (by repeat (first | (with_reducible first | exact HB.out | apply below_alloc | apply pw_below_drewN | apply below_drew1) | exact HB.out)))); (case aL => have := LMc16.out; omega); intro v112 w20 ho hb hg hat; rw [← Ny111.out] at ho; have n0_ := Aside0.mk (Kd.V_afterv (ok := (fun k_ => ((P0_ k_ ∨ P1_ k_) ∨ w.heap.size ≤ k_))) (by (with_reducible repeat (first | apply Kd.V_alloc | apply Kd.V_drewN | apply Kd.V_drew)); exact HO_0.out) hg hat); have n1_ := Aside0.mk (Kd.V_afterv (ok := (fun k_ => ((P0_ k_ ∨ P1_ k_) ∨ w.heap.size ≤ k_))) (by (with_reducible repeat (first | apply Kd.V_alloc | apply Kd.V_drewN | apply Kd.V_drew)); exact HO_1.out) hg hat); have n2_ := Aside0.mk (hb); have n3_ := Aside0.mk (ho); clear HO_0; clear HO_1; clear HB; clear HO110; have HO_0 := n0_; have HO_1 := n1_; have HB := n2_; have HO113 := n3_; clear n0_ n1_ n2_ n3_; clear ho hb hg hat; obtain ⟨Ao21, co21, eo21⟩ := Kd.R_slice HO113.out; subst eo21)); try go_wp2_with (first | ((with_reducible refine gate_dst (N := 27) rfl ?_); refine Kd.R_lit Kd.string _ 9 ?hg (N := 27) ?hd (xs := ([] : List ByteArray)) (inner := []) (ok := fun _ => True) (okp := fun _ => True) ?hr ?hp (fun _ hk => hk) trivial (Below.refl _ _) (Nat.le_refl _) (by simp) ?_; (case hd => rfl); (case hg => rfl); (case hr => first | (go_simp; done) | (go_simp; rfl)); (case hp => exact (Reps.none _ _)); intro v106 w17 ho18 hb hg_ hnew_; clear hg_ hnew_; (first | rw [← Ny105.out] at ho18 | (simp only [Int.reduceToNat] at ho18; rw [← Ny105.out] at ho18)); have n0_ := Aside0.mk (Kd.V_elder' (by (with_reducible repeat (first | apply Kd.V_alloc | apply Kd.V_drewN | apply Kd.V_drew)); exact HO_0.out) (Kd.R_base ho18) hb); have n1_ := Aside0.mk (Kd.V_elder' (by (with_reducible repeat (first | apply Kd.V_alloc | apply Kd.V_drewN | apply Kd.V_drew)); exact HO_1.out) (Kd.R_base ho18) hb); have n2_ := Aside0.mk (Kd.R_lower (Kd.R_newM (M := fun k_ => (w.heap.size ≤ k_)) ho18 (below_size (by repeat (first | (with_reducible first | exact HB.out | apply below_alloc | apply pw_below_drewN | apply below_drew1) | exact HB.out))) (fun k_ h_ => h_)) (below_size (by repeat (first | (with_reducible first | exact HB.out | apply below_alloc | apply pw_below_drewN | apply below_drew1) | exact HB.out)))); have n3_ := Aside0.mk (below_step (by repeat (first | (with_reducible first | exact HB.out | apply below_alloc | apply pw_below_drewN | apply below_drew1) | exact HB.out)) hb); clear HO_0; clear HO_1; clear HB; have HO_0 := n0_; have HO_1 := n1_; have HO107 := n2_; have HB := n3_; clear n0_ n1_ n2_ n3_; clear hb ho18) | ((with_reducible refine gate_builtin (b := .append) (xs := #[.tmp 27, .tmp 28]) rfl ?_); at_builtin; refine Kd.R_append_rows Kd.string (w0 := w) w.heap.size rfl (.tmp 27) (.tmp 28) 24 9 (.string ⟨#[]⟩) 16 rfl Try.underlying24 info9 rfl (by decide) (by omega) v106 y105 l0 _ _ _ (fun k_ => (w.heap.size ≤ k_)) (fun _ => False) rfl rfl ?aO ?aR (fun _ _ h => h) (fun _ h => h.elim) ?aF ?aB ?aS ?aL ?_; (case aR => repeat (first | exact (Kd.V_reads' HO_0.out).2.2 | (with_reducible refine Kd.C_alloc ?_ _) | (with_reducible refine Kd.C_drewN ?_ _) | (with_reducible refine Kd.C_drew ?_))); (case aB => exact (by repeat (first | (with_reducible first | exact HB.out | apply below_alloc | apply pw_below_drewN | apply below_drew1) | exact HB.out))); (case aF => exact (fun k_ hk => (Nat.le_trans (below_size (by repeat (first | (with_reducible first | exact HB.out | apply below_alloc | apply pw_below_drewN | apply below_drew1) | exact HB.out))) hk))); (case aO => exact (by (with_reducible repeat (first | apply Kd.R_alloc | apply Kd.R_drewN | apply Kd.R_drew)); exact Kd.R_mono HO107.out (fun _ hk => hk.1))); (case aS => exact (below_size (by repeat (first | (with_reducible first | exact HB.out | apply below_alloc | apply pw_below_drewN | apply below_drew1) | exact HB.out)))); (case aL => have := LMc15.out; omega); intro v109 w19 ho hb hg hat; rw [← Ny108.out] at ho; have n0_ := Aside0.mk (Kd.V_afterv (ok := (fun k_ => ((P0_ k_ ∨ P1_ k_) ∨ w.heap.size ≤ k_))) (by (with_reducible repeat (first | apply Kd.V_alloc | apply Kd.V_drewN | apply Kd.V_drew)); exact HO_0.out) hg hat); have n1_ := Aside0.mk (Kd.V_afterv (ok := (fun k_ => ((P0_ k_ ∨ P1_ k_) ∨ w.heap.size ≤ k_))) (by (with_reducible repeat (first | apply Kd.V_alloc | apply Kd.V_drewN | apply Kd.V_drew)); exact HO_1.out) hg hat); have n2_ := Aside0.mk (hb); have n3_ := Aside0.mk (ho); clear HO_0; clear HO_1; clear HB; clear HO107; have HO_0 := n0_; have HO_1 := n1_; have HB := n2_; have HO110 := n3_; clear n0_ n1_ n2_ n3_; clear ho hb hg hat) | ((with_reducible refine gate_builtin (b := .append) (xs := #[.tmp 29, .tmp 30]) rfl ?_); at_builtin; refine Kd.R_append_rows Kd.string (w0 := w) w.heap.size rfl (.tmp 29) (.tmp 30) 24 9 (.string ⟨#[]⟩) 16 rfl Try.underlying24 info9 rfl (by decide) (by omega) v109 y108 l1 _ _ _ (fun k_ => (w.heap.size ≤ k_)) (fun _ => False) rfl rfl ?aO ?aR (fun _ _ h => h) (fun _ h => h.elim) ?aF ?aB ?aS ?aL ?_; (case aR => repeat (first | exact (Kd.V_reads' HO_1.out).2.2 | (with_reducible refine Kd.C_alloc ?_ _) | (with_reducible refine Kd.C_drewN ?_ _) | (with_reducible refine Kd.C_drew ?_))); (case aB => exact (by repeat (first | (with_reducible first | exact HB.out | apply below_alloc | apply pw_below_drewN | apply below_drew1) | exact HB.out))); (case aF => exact (fun k_ hk => (Nat.le_trans (below_size (by repeat (first | (with_reducible first | exact HB.out | apply below_alloc | apply pw_below_drewN | apply below_drew1) | exact HB.out))) hk))); (case aO => exact (by (with_reducible repeat (first | apply Kd.R_alloc | apply Kd.R_drewN | apply Kd.R_drew)); exact HO110.out)); (case aS => exact (below_size (by repeat (first | (with_reducible first | exact HB.out | apply below_alloc | apply pw_below_drewN | apply below_drew1) | exact HB.out)))); (case aL => have := LMc16.out; omega); intro v112 w20 ho hb hg hat; rw [← Ny111.out] at ho; have n0_ := Aside0.mk (Kd.V_afterv (ok := (fun k_ => ((P0_ k_ ∨ P1_ k_) ∨ w.heap.size ≤ k_))) (by (with_reducible repeat (first | apply Kd.V_alloc | apply Kd.V_drewN | apply Kd.V_drew)); exact HO_0.out) hg hat); have n1_ := Aside0.mk (Kd.V_afterv (ok := (fun k_ => ((P0_ k_ ∨ P1_ k_) ∨ w.heap.size ≤ k_))) (by (with_reducible repeat (first | apply Kd.V_alloc | apply Kd.V_drewN | apply Kd.V_drew)); exact HO_1.out) hg hat); have n2_ := Aside0.mk (hb); have n3_ := Aside0.mk (ho); clear HO_0; clear HO_1; clear HB; clear HO110; have HO_0 := n0_; have HO_1 := n1_; have HB := n2_; have HO113 := n3_; clear n0_ n1_ n2_ n3_; clear ho hb hg hat; obtain ⟨Ao21, co21, eo21⟩ := Kd.R_slice HO113.out; subst eo21)))
            go_loopg [5, 34] kj2 (fun kq v5 v34 w' => ∃ (x5_2 : Int) (x34_2 : Int), v5 = .int .i64 x5_2 ∧ v34 = .int .i64 x34_2 ∧ Aside0 (emendationlaw03_TokenLists.l0 kq l0 l1 x5_2 y111 (y111.length : Int) x34_2 = some r) ∧ Aside0 (kq ≤ kj2) ∧ Aside0 (Kd.V Kd.string 9 w' w.heap.size (fun k_ => ((P0_ k_ ∨ P1_ k_) ∨ w.heap.size ≤ k_) ∧ some k_ ≠ ((.slice Ao21 y111.length co21) : Value).ownBlock) (.slice A0 l0.length c0) l0) ∧ Aside0 (Kd.V Kd.string 9 w' w.heap.size (fun k_ => ((P0_ k_ ∨ P1_ k_) ∨ w.heap.size ≤ k_) ∧ some k_ ≠ ((.slice Ao21 y111.length co21) : Value).ownBlock) (.slice A1 l1.length c1) l1) ∧ Aside0 (Kd.R Kd.string 9 w' w.heap.size (fun k_ => (w.heap.size ≤ k_)) (.slice Ao21 y111.length co21) y111) ∧ Aside0 (Below w.heap.size w w'))
            case atStart => exact ⟨(0), (0), (by first | rfl | (simp; done) | (simp [*]; done)), (by first | rfl | (simp; done) | (simp [*]; done)), H', ⟨Nat.le_refl _⟩, ⟨by (with_reducible repeat (first | apply Kd.V_alloc | apply Kd.V_drewN | apply Kd.V_drew)); exact HO_0.out⟩, ⟨by (with_reducible repeat (first | apply Kd.V_alloc | apply Kd.V_drewN | apply Kd.V_drew)); exact HO_1.out⟩, ⟨by (with_reducible repeat (first | apply Kd.R_alloc | apply Kd.R_drewN | apply Kd.R_drew)); exact HO113.out⟩, ⟨by repeat (first | (with_reducible first | exact HB.out | apply below_alloc | apply pw_below_drewN | apply below_drew1) | exact HB.out)⟩⟩
            case round =>
              clear H'
              try clear c1
              try clear c2
              try clear p2
              try clear c5
              try clear c7
              try clear c12
              try clear c15
              try clear c16
              try clear p2
              obtain ⟨x5_2, x34_2, rfl, rfl, HA, HK2, HO_0, HO_1, HO_6, HB⟩ := hrel
              cases gk with
              | zero => exact absurd HA.out (by simp [emendationlaw03_TokenLists.l0])
              | succ k2 =>
                have H := HA.out
                clear HA
                simp only [emendationlaw03_TokenLists.l0] at H
                by_cases c22 : x34_2 < (y111.length : Int)
                · rw [if_pos c22] at H
                  have c22b0 : decide (x34_2 < (y111.length : Int)) = true := decide_eq_true c22
                  clear c22
                  have H' := Aside0.mk H
                  clear H
                  go_wp2
                  repeat (go_quiet (fail); try go_wp2)
                  go_loopg [8, 38] k2 (fun kq v8 v38 w' => ∃ (x8_3 : Bool) (x38_3 : Int), v8 = .bool x8_3 ∧ v38 = .int .i64 x38_3 ∧ Aside0 (emendationlaw03_TokenLists.l1 kq l0 l1 x5_2 y111 x34_2 x8_3 (y111.length : Int) x34_2 x34_2 x38_3 = some r) ∧ Aside0 (kq ≤ k2) ∧ Aside0 (Kd.V Kd.string 9 w' w.heap.size (fun k_ => ((P0_ k_ ∨ P1_ k_) ∨ w.heap.size ≤ k_) ∧ some k_ ≠ ((.slice Ao21 y111.length co21) : Value).ownBlock) (.slice A0 l0.length c0) l0) ∧ Aside0 (Kd.V Kd.string 9 w' w.heap.size (fun k_ => ((P0_ k_ ∨ P1_ k_) ∨ w.heap.size ≤ k_) ∧ some k_ ≠ ((.slice Ao21 y111.length co21) : Value).ownBlock) (.slice A1 l1.length c1) l1) ∧ Aside0 (Kd.R Kd.string 9 w' w.heap.size (fun k_ => (w.heap.size ≤ k_)) (.slice Ao21 y111.length co21) y111) ∧ Aside0 (Below w.heap.size w w'))
                  case atStart => exact ⟨(true), (0), (by first | rfl | (simp; done) | (simp [*]; done)), (by first | rfl | (simp; done) | (simp [*]; done)), H', ⟨Nat.le_refl _⟩, ⟨by (with_reducible repeat (first | apply Kd.V_alloc | apply Kd.V_drewN | apply Kd.V_drew)); exact HO_0.out⟩, ⟨by (with_reducible repeat (first | apply Kd.V_alloc | apply Kd.V_drewN | apply Kd.V_drew)); exact HO_1.out⟩, ⟨by (with_reducible repeat (first | apply Kd.R_alloc | apply Kd.R_drewN | apply Kd.R_drew)); exact HO_6.out⟩, ⟨by repeat (first | (with_reducible first | exact HB.out | apply below_alloc | apply pw_below_drewN | apply below_drew1) | exact HB.out)⟩⟩
                  case round =>
                    clear H'
                    try clear c1
                    try clear c2
                    try clear p2
                    try clear c5
                    try clear c7
                    try clear c12
                    try clear c15
                    try clear c16
                    try clear c22
                    try clear c22b0
                    try clear p2
                    obtain ⟨x8_3, x38_3, rfl, rfl, HA, HK3, HO_0, HO_1, HO_6, HB⟩ := hrel
                    cases gk with
                    | zero => exact absurd HA.out (by simp [emendationlaw03_TokenLists.l1])
                    | succ k3 =>
                      have H := HA.out
                      clear HA
                      simp only [emendationlaw03_TokenLists.l1] at H
                      by_cases c23 : x38_3 < x34_2
                      · rw [if_pos c23] at H
                        have c23b0 : decide (x38_3 < x34_2) = true := decide_eq_true c23
                        clear c23
                        by_cases c24 : x8_3 = true
                        · subst c24
                          have H1 : (if 0 ≤ x38_3 then (if x38_3 < (y111.length : Int) then (if 0 ≤ x34_2 then (if x34_2 < (y111.length : Int) then (emendationlaw03_TokenLists.l1 k3 l0 l1 x5_2 y111 x34_2 ((rdOf ByteArray.empty y111 x38_3).toList != (rdOf ByteArray.empty y111 x34_2).toList) (y111.length : Int) x34_2 x34_2 (wrap64 (x38_3 + 1))) else (none)) else (none)) else (none)) else (none)) = some r := by rw [if_pos rfl] at H; exact H
                          clear H
                          have H := H1
                          clear H1
                          by_cases c25 : 0 ≤ x38_3
                          · rw [if_pos c25] at H
                            have c25b0 : decide (0 ≤ x38_3) = true := decide_eq_true c25
                            clear c25
                            by_cases c26 : x38_3 < (y111.length : Int)
                            · rw [if_pos c26] at H
                              have c26b0 : decide (x38_3 < (y111.length : Int)) = true := decide_eq_true c26
                              clear c26
                              by_cases c27 : 0 ≤ x34_2
                              · rw [if_pos c27] at H
                                have c27b0 : decide (0 ≤ x34_2) = true := decide_eq_true c27
                                clear c27
                                by_cases c28 : x34_2 < (y111.length : Int)
                                · rw [if_pos c28] at H
                                  have c28b0 : decide (x34_2 < (y111.length : Int)) = true := decide_eq_true c28
                                  clear c28
                                  have H' := Aside0.mk H
                                  clear H
                                  have p114 : 0 ≤ (x38_3 : Int) := of_decide_eq_true (by first | (with_reducible assumption) | assumption)
                                  have q114 : x38_3 < (y111.length : Int) := of_decide_eq_true (by first | (with_reducible assumption) | assumption)
                                  obtain ⟨ad114, e114, hx114_0⟩ := Kd.at_string (Kd.R_reads' HO_6.out).2.2 x38_3 p114 q114
                                  cases e114
                                  replace p114 := eq_true p114
                                  replace q114 := eq_true q114
                                  have p115 : 0 ≤ (x34_2 : Int) := of_decide_eq_true (by first | (with_reducible assumption) | assumption)
                                  have q115 : x34_2 < (y111.length : Int) := of_decide_eq_true (by first | (with_reducible assumption) | assumption)
                                  obtain ⟨ad115, e115, hx115_0⟩ := Kd.at_string (Kd.R_reads' HO_6.out).2.2 x34_2 p115 q115
                                  obtain rfl : ad114 = ad115 := (by injection e115)
                                  replace p115 := eq_true p115
                                  replace q115 := eq_true q115
                                  go_wp2
                                  repeat (go_quiet (fail); try go_wp2)
                                  go_roundg k3
                                  case measure => have := HJ2.out; have := HK2.out; have := HK3.out; omega
                                  case rel => exact ⟨(((rdOf ByteArray.empty y111 x38_3).toList != (rdOf ByteArray.empty y111 x34_2).toList)), (wrap64 (x38_3 + 1)), (by first | rfl | (simp; done) | (simp [*]; done)), (by first | rfl | (simp; done) | (simp [*]; done)), H', ⟨by have := HJ2.out; have := HK2.out; have := HK3.out; omega⟩, ⟨by (with_reducible repeat (first | apply Kd.V_alloc | apply Kd.V_drewN | apply Kd.V_drew)); exact HO_0.out⟩, ⟨by (with_reducible repeat (first | apply Kd.V_alloc | apply Kd.V_drewN | apply Kd.V_drew)); exact HO_1.out⟩, ⟨by (with_reducible repeat (first | apply Kd.R_alloc | apply Kd.R_drewN | apply Kd.R_drew)); exact HO_6.out⟩, ⟨by repeat (first | (with_reducible first | exact HB.out | apply below_alloc | apply pw_below_drewN | apply below_drew1) | exact HB.out)⟩⟩
                                · rw [if_neg c28] at H
                                  exact absurd H (by simp)
                              · rw [if_neg c27] at H
                                exact absurd H (by simp)
                            · rw [if_neg c26] at H
                              exact absurd H (by simp)
                          · rw [if_neg c25] at H
                            exact absurd H (by simp)
                        · replace c24 := Bool.eq_false_iff.mpr c24
                          subst c24
                          have H1 : (emendationlaw03_TokenLists.l1 k3 l0 l1 x5_2 y111 x34_2 false (y111.length : Int) x34_2 x34_2 (wrap64 (x38_3 + 1))) = some r := by rw [if_neg (show ¬ (false = true) by decide)] at H; exact H
                          clear H
                          have H := H1
                          clear H1
                          have H' := Aside0.mk H
                          clear H
                          go_wp2
                          repeat (go_quiet (fail); try go_wp2)
                          go_roundg k3
                          case measure => have := HJ2.out; have := HK2.out; have := HK3.out; omega
                          case rel => exact ⟨(false), (wrap64 (x38_3 + 1)), (by first | rfl | (simp; done) | (simp [*]; done)), (by first | rfl | (simp; done) | (simp [*]; done)), H', ⟨by have := HJ2.out; have := HK2.out; have := HK3.out; omega⟩, ⟨by (with_reducible repeat (first | apply Kd.V_alloc | apply Kd.V_drewN | apply Kd.V_drew)); exact HO_0.out⟩, ⟨by (with_reducible repeat (first | apply Kd.V_alloc | apply Kd.V_drewN | apply Kd.V_drew)); exact HO_1.out⟩, ⟨by (with_reducible repeat (first | apply Kd.R_alloc | apply Kd.R_drewN | apply Kd.R_drew)); exact HO_6.out⟩, ⟨by repeat (first | (with_reducible first | exact HB.out | apply below_alloc | apply pw_below_drewN | apply below_drew1) | exact HB.out)⟩⟩
                      · rw [if_neg c23] at H
                        have c23b0 : decide (x38_3 < x34_2) = false := decide_eq_false c23
                        clear c23
                        by_cases c29 : x8_3 = true
                        · subst c29
                          have H1 : (emendationlaw03_TokenLists.l0 k3 l0 l1 (wrap64 (x5_2 + 1)) y111 (y111.length : Int) (wrap64 (x34_2 + 1))) = some r := by rw [if_pos rfl] at H; exact H
                          clear H
                          have H := H1
                          clear H1
                          have H' := Aside0.mk H
                          clear H
                          go_wp2
                          repeat (go_quiet (fail); try go_wp2)
                          go_roundg k3
                          case measure => have := HJ2.out; have := HK2.out; have := HK3.out; omega
                          case rel => exact ⟨(wrap64 (x5_2 + 1)), (wrap64 (x34_2 + 1)), (by first | rfl | (simp; done) | (simp [*]; done)), (by first | rfl | (simp; done) | (simp [*]; done)), H', ⟨by have := HJ2.out; have := HK2.out; have := HK3.out; omega⟩, ⟨by (with_reducible repeat (first | apply Kd.V_alloc | apply Kd.V_drewN | apply Kd.V_drew)); exact HO_0.out⟩, ⟨by (with_reducible repeat (first | apply Kd.V_alloc | apply Kd.V_drewN | apply Kd.V_drew)); exact HO_1.out⟩, ⟨by (with_reducible repeat (first | apply Kd.R_alloc | apply Kd.R_drewN | apply Kd.R_drew)); exact HO_6.out⟩, ⟨by repeat (first | (with_reducible first | exact HB.out | apply below_alloc | apply pw_below_drewN | apply below_drew1) | exact HB.out)⟩⟩
                        · replace c29 := Bool.eq_false_iff.mpr c29
                          subst c29
                          have H1 : (emendationlaw03_TokenLists.l0 k3 l0 l1 x5_2 y111 (y111.length : Int) (wrap64 (x34_2 + 1))) = some r := by rw [if_neg (show ¬ (false = true) by decide)] at H; exact H
                          clear H
                          have H := H1
                          clear H1
                          have H' := Aside0.mk H
                          clear H
                          go_wp2
                          repeat (go_quiet (fail); try go_wp2)
                          go_roundg k3
                          case measure => have := HJ2.out; have := HK2.out; have := HK3.out; omega
                          case rel => exact ⟨(x5_2), (wrap64 (x34_2 + 1)), (by first | rfl | (simp; done) | (simp [*]; done)), (by first | rfl | (simp; done) | (simp [*]; done)), H', ⟨by have := HJ2.out; have := HK2.out; have := HK3.out; omega⟩, ⟨by (with_reducible repeat (first | apply Kd.V_alloc | apply Kd.V_drewN | apply Kd.V_drew)); exact HO_0.out⟩, ⟨by (with_reducible repeat (first | apply Kd.V_alloc | apply Kd.V_drewN | apply Kd.V_drew)); exact HO_1.out⟩, ⟨by (with_reducible repeat (first | apply Kd.R_alloc | apply Kd.R_drewN | apply Kd.R_drew)); exact HO_6.out⟩, ⟨by repeat (first | (with_reducible first | exact HB.out | apply below_alloc | apply pw_below_drewN | apply below_drew1) | exact HB.out)⟩⟩
                · rw [if_neg c22] at H
                  have c22b0 : decide (x34_2 < (y111.length : Int)) = false := decide_eq_false c22
                  clear c22
                  obtain ⟨y116, hy116⟩ : ∃ y_ : List (List ByteArray), y_ = (([l0, l1, l0, l1] : List (List ByteArray))) := ⟨_, rfl⟩
                  replace H : ((token_Ids.f k2 y116).bind fun t119 => (if (t119.length : Int) = 4 then (if 0 < (t119.length : Int) then (if 2 < (t119.length : Int) then ((emendationref03_Same.f k2 (rd_L3 t119 0) (rd_L3 t119 2)).bind fun t124 => (if t124 = true then (if 1 < (t119.length : Int) then (if 3 < (t119.length : Int) then ((emendationref03_Same.f k2 (rd_L3 t119 1) (rd_L3 t119 3)).bind fun t127 => (emendationlaw03_TokenLists.j3 k2 x5_2 t119 (!t127))) else (none)) else (none)) else (emendationlaw03_TokenLists.j3 k2 x5_2 t119 true))) else (none)) else (none)) else (emendationlaw03_TokenLists.j3 k2 x5_2 t119 true))) = some r := by first | (rw [hy116]; with_reducible exact H) | (have H2_ := (Option.bind_some _ _).symm.trans H; rw [hy116]; with_reducible exact H2_) | (have H2_ := (Option.bind_some _ _).symm.trans H; with_reducible exact H2_) | with_reducible exact H | (rw [hy116]; exact H) | exact H
                  have Ny116 := Aside0.mk hy116
                  clear hy116
                  replace H := Option.bind_eq_some_iff.mp H
                  obtain ⟨t119, A300, H⟩ := H
                  replace H : (if (t119.length : Int) = 4 then (if 0 < (t119.length : Int) then (if 2 < (t119.length : Int) then ((emendationref03_Same.f k2 (rd_L3 t119 0) (rd_L3 t119 2)).bind fun t124 => (if t124 = true then (if 1 < (t119.length : Int) then (if 3 < (t119.length : Int) then ((emendationref03_Same.f k2 (rd_L3 t119 1) (rd_L3 t119 3)).bind fun t127 => (emendationlaw03_TokenLists.j3 k2 x5_2 t119 (!t127))) else (none)) else (none)) else (emendationlaw03_TokenLists.j3 k2 x5_2 t119 true))) else (none)) else (none)) else (emendationlaw03_TokenLists.j3 k2 x5_2 t119 true)) = some r := H
                  have A30 := Aside0.mk A300
                  clear A300
                  have HC31 := Aside0.mk H
                  clear H
                  go_upto_region 18 with (first | ((with_reducible refine gate_dst (N := 62) rfl ?_); refine Kd.N_lit (Kd.slice 9 Kd.string) _ 24 ?hg (N' := 62) ?hd (xs := ([l0, l1, l0, l1] : List (List ByteArray))) (inner := [.slice A0 l0.length c0, .slice A1 l1.length c1, .slice A0 l0.length c0, .slice A1 l1.length c1]) (ok := (fun k_ => ((P0_ k_ ∨ P1_ k_) ∨ w.heap.size ≤ k_) ∧ some k_ ≠ (.slice Ao21 y111.length co21 : Value).ownBlock)) (okp := (fun k_ => ((P0_ k_ ∨ P1_ k_) ∨ w.heap.size ≤ k_) ∧ some k_ ≠ (.slice Ao21 y111.length co21 : Value).ownBlock)) ?hr ?hp (fun _ hk => hk) ((show ∀ k_, wr.heap.size ≤ k_ → (fun k_ => ((P0_ k_ ∨ P1_ k_) ∨ w.heap.size ≤ k_) ∧ some k_ ≠ (.slice Ao21 y111.length co21 : Value).ownBlock) k_ from fun k_ hk => ⟨(.inr (Nat.le_trans (below_size (by repeat (first | (with_reducible first | exact HB.out | apply below_alloc | apply pw_below_drewN | apply below_drew1) | exact HB.out))) hk)), Kd.fresh' (Kd.R_lt (by (with_reducible repeat (first | apply Kd.R_alloc | apply Kd.R_drewN | apply Kd.R_drew)); exact HO_6.out)) k_ hk⟩) _ (Nat.le_refl _)) (Below.refl _ _) (Nat.le_refl _) (by simp) ?_; (case hd => rfl); (case hg => rfl); (case hr => first | (go_simp; done) | (go_simp; rfl)); (case hp => exact (Reps.one (show Kd.FK (Kd.slice 9 Kd.string) _ _ l0 [.slice A0 l0.length c0] from (Kd.FK_slice_mk (Kd.V_reads' (Kd.V_mono (ok' := (fun k_ => ((P0_ k_ ∨ P1_ k_) ∨ w.heap.size ≤ k_) ∧ some k_ ≠ (.slice Ao21 y111.length co21 : Value).ownBlock)) (HO_0.out) (fun k_ hk => ⟨hk.1, hk.2⟩))).2.1 (Kd.V_F (Kd.V_mono (ok' := (fun k_ => ((P0_ k_ ∨ P1_ k_) ∨ w.heap.size ≤ k_) ∧ some k_ ≠ (.slice Ao21 y111.length co21 : Value).ownBlock)) (HO_0.out) (fun k_ hk => ⟨hk.1, hk.2⟩))))) (Reps.one (show Kd.FK (Kd.slice 9 Kd.string) _ _ l1 [.slice A1 l1.length c1] from (Kd.FK_slice_mk (Kd.V_reads' (Kd.V_mono (ok' := (fun k_ => ((P0_ k_ ∨ P1_ k_) ∨ w.heap.size ≤ k_) ∧ some k_ ≠ (.slice Ao21 y111.length co21 : Value).ownBlock)) (HO_1.out) (fun k_ hk => ⟨hk.1, hk.2⟩))).2.1 (Kd.V_F (Kd.V_mono (ok' := (fun k_ => ((P0_ k_ ∨ P1_ k_) ∨ w.heap.size ≤ k_) ∧ some k_ ≠ (.slice Ao21 y111.length co21 : Value).ownBlock)) (HO_1.out) (fun k_ hk => ⟨hk.1, hk.2⟩))))) (Reps.one (show Kd.FK (Kd.slice 9 Kd.string) _ _ l0 [.slice A0 l0.length c0] from (Kd.FK_slice_mk (Kd.V_reads' (Kd.V_mono (ok' := (fun k_ => ((P0_ k_ ∨ P1_ k_) ∨ w.heap.size ≤ k_) ∧ some k_ ≠ (.slice Ao21 y111.length co21 : Value).ownBlock)) (HO_0.out) (fun k_ hk => ⟨hk.1, hk.2⟩))).2.1 (Kd.V_F (Kd.V_mono (ok' := (fun k_ => ((P0_ k_ ∨ P1_ k_) ∨ w.heap.size ≤ k_) ∧ some k_ ≠ (.slice Ao21 y111.length co21 : Value).ownBlock)) (HO_0.out) (fun k_ hk => ⟨hk.1, hk.2⟩))))) (Reps.one (show Kd.FK (Kd.slice 9 Kd.string) _ _ l1 [.slice A1 l1.length c1] from (Kd.FK_slice_mk (Kd.V_reads' (Kd.V_mono (ok' := (fun k_ => ((P0_ k_ ∨ P1_ k_) ∨ w.heap.size ≤ k_) ∧ some k_ ≠ (.slice Ao21 y111.length co21 : Value).ownBlock)) (HO_1.out) (fun k_ hk => ⟨hk.1, hk.2⟩))).2.1 (Kd.V_F (Kd.V_mono (ok' := (fun k_ => ((P0_ k_ ∨ P1_ k_) ∨ w.heap.size ≤ k_) ∧ some k_ ≠ (.slice Ao21 y111.length co21 : Value).ownBlock)) (HO_1.out) (fun k_ hk => ⟨hk.1, hk.2⟩))))) (Reps.none _ _)))))); intro v117 w32 ho33 hb hg_ hnew_; clear hg_ hnew_; (first | rw [← Ny116.out] at ho33 | (simp only [Int.reduceToNat] at ho33; rw [← Ny116.out] at ho33)); have n0_ := Aside0.mk (Kd.V_elder' (by (with_reducible repeat (first | apply Kd.V_alloc | apply Kd.V_drewN | apply Kd.V_drew)); exact HO_0.out) (Kd.N_base ho33) hb); have n1_ := Aside0.mk (Kd.V_elder' (by (with_reducible repeat (first | apply Kd.V_alloc | apply Kd.V_drewN | apply Kd.V_drew)); exact HO_1.out) (Kd.N_base ho33) hb); have n2_ := Aside0.mk (Kd.R_below (by (with_reducible repeat (first | apply Kd.R_alloc | apply Kd.R_drewN | apply Kd.R_drew)); exact HO_6.out) hb); have n3_ := Aside0.mk (Kd.N_lower ho33 (below_size (by repeat (first | (with_reducible first | exact HB.out | apply below_alloc | apply pw_below_drewN | apply below_drew1) | exact HB.out)))); have n4_ := Aside0.mk (below_step (by repeat (first | (with_reducible first | exact HB.out | apply below_alloc | apply pw_below_drewN | apply below_drew1) | exact HB.out)) hb); clear HO_0; clear HO_1; clear HO_6; clear HB; have HO_0 := n0_; have HO_1 := n1_; have HO_6 := n2_; have HO118 := n3_; have HB := n4_; clear n0_ n1_ n2_ n3_ n4_; clear hb ho33; obtain ⟨Ao34, co34, eo34⟩ := Kd.N_slice HO118.out; subst eo34) | (go_at_call 60; (with_reducible refine (token_Ids.calls k2 _ _ y116 t119 _ ?side1 ?side2 A30.out).mono ?_); (case side1 => repeat (first | exact (Kd.N_reads' HO118.out).2.2 | (with_reducible refine Kd.C_alloc ?_ _) | (with_reducible refine Kd.C_drewN ?_ _) | (with_reducible refine Kd.C_drew ?_))); (case side2 => exact (Kd.N_reads' HO118.out).2.1); rintro e w35 ⟨v120, rfl, ho0, hb⟩; have n0_ := Aside0.mk (Kd.V_elder' (by (with_reducible repeat (first | apply Kd.V_alloc | apply Kd.V_drewN | apply Kd.V_drew)); exact HO_0.out) (Kd.N_base (Kd.S_N ho0)) hb); have n1_ := Aside0.mk (Kd.V_elder' (by (with_reducible repeat (first | apply Kd.V_alloc | apply Kd.V_drewN | apply Kd.V_drew)); exact HO_1.out) (Kd.N_base (Kd.S_N ho0)) hb); have n2_ := Aside0.mk (Kd.R_below (by (with_reducible repeat (first | apply Kd.R_alloc | apply Kd.R_drewN | apply Kd.R_drew)); exact HO_6.out) hb); have n3_ := Aside0.mk (Kd.N_elder' (by (with_reducible repeat (first | apply Kd.N_alloc | apply Kd.N_drewN | apply Kd.N_drew)); exact HO118.out) (Kd.N_base (Kd.S_N ho0)) hb); have n4_ := Aside0.mk (Kd.N_lower (Kd.N_mono (ok' := fun k_ => ((P0_ k_ ∨ P1_ k_) ∨ w.heap.size ≤ k_) ∧ some k_ ≠ (.slice Ao21 y111.length co21 : Value).ownBlock ∧ some k_ ≠ (.slice Ao34 y116.length co34 : Value).ownBlock) (Kd.S_N (Kd.S_bound ho0)) (fun k_ hk_ => ⟨(.inr (Nat.le_trans (below_size (by repeat (first | (with_reducible first | exact HB.out | apply below_alloc | apply pw_below_drewN | apply below_drew1) | exact HB.out))) hk_.2.1)), (Kd.fresh' (Kd.R_lt (by (with_reducible repeat (first | apply Kd.R_alloc | apply Kd.R_drewN | apply Kd.R_drew)); exact HO_6.out)) k_ hk_.2.1), (Kd.fresh' (Kd.N_lt (by (with_reducible repeat (first | apply Kd.N_alloc | apply Kd.N_drewN | apply Kd.N_drew)); exact HO118.out)) k_ hk_.2.1)⟩)) (below_size (by repeat (first | (with_reducible first | exact HB.out | apply below_alloc | apply pw_below_drewN | apply below_drew1) | exact HB.out)))); have n5_ := Aside0.mk (below_step (by repeat (first | (with_reducible first | exact HB.out | apply below_alloc | apply pw_below_drewN | apply below_drew1) | exact HB.out)) hb); clear HO_0; clear HO_1; clear HO_6; clear HO118; clear HB; have HO_0 := n0_; have HO_1 := n1_; have HO_6 := n2_; have HO118 := n3_; have HO121 := n4_; have HB := n5_; clear n0_ n1_ n2_ n3_ n4_ n5_; (try clear hb); (try clear hb2); (try clear hk); (try clear hi); (try clear ho0)))
                  repeat (go_quiet (first | ((with_reducible refine gate_dst (N := 62) rfl ?_); refine Kd.N_lit (Kd.slice 9 Kd.string) _ 24 ?hg (N' := 62) ?hd (xs := ([l0, l1, l0, l1] : List (List ByteArray))) (inner := [.slice A0 l0.length c0, .slice A1 l1.length c1, .slice A0 l0.length c0, .slice A1 l1.length c1]) (ok := (fun k_ => ((P0_ k_ ∨ P1_ k_) ∨ w.heap.size ≤ k_) ∧ some k_ ≠ (.slice Ao21 y111.length co21 : Value).ownBlock)) (okp := (fun k_ => ((P0_ k_ ∨ P1_ k_) ∨ w.heap.size ≤ k_) ∧ some k_ ≠ (.slice Ao21 y111.length co21 : Value).ownBlock)) ?hr ?hp (fun _ hk => hk) ((show ∀ k_, wr.heap.size ≤ k_ → (fun k_ => ((P0_ k_ ∨ P1_ k_) ∨ w.heap.size ≤ k_) ∧ some k_ ≠ (.slice Ao21 y111.length co21 : Value).ownBlock) k_ from fun k_ hk => ⟨(.inr (Nat.le_trans (below_size (by repeat (first | (with_reducible first | exact HB.out | apply below_alloc | apply pw_below_drewN | apply below_drew1) | exact HB.out))) hk)), Kd.fresh' (Kd.R_lt (by (with_reducible repeat (first | apply Kd.R_alloc | apply Kd.R_drewN | apply Kd.R_drew)); exact HO_6.out)) k_ hk⟩) _ (Nat.le_refl _)) (Below.refl _ _) (Nat.le_refl _) (by simp) ?_; (case hd => rfl); (case hg => rfl); (case hr => first | (go_simp; done) | (go_simp; rfl)); (case hp => exact (Reps.one (show Kd.FK (Kd.slice 9 Kd.string) _ _ l0 [.slice A0 l0.length c0] from (Kd.FK_slice_mk (Kd.V_reads' (Kd.V_mono (ok' := (fun k_ => ((P0_ k_ ∨ P1_ k_) ∨ w.heap.size ≤ k_) ∧ some k_ ≠ (.slice Ao21 y111.length co21 : Value).ownBlock)) (HO_0.out) (fun k_ hk => ⟨hk.1, hk.2⟩))).2.1 (Kd.V_F (Kd.V_mono (ok' := (fun k_ => ((P0_ k_ ∨ P1_ k_) ∨ w.heap.size ≤ k_) ∧ some k_ ≠ (.slice Ao21 y111.length co21 : Value).ownBlock)) (HO_0.out) (fun k_ hk => ⟨hk.1, hk.2⟩))))) (Reps.one (show Kd.FK (Kd.slice 9 Kd.string) _ _ l1 [.slice A1 l1.length c1] from (Kd.FK_slice_mk (Kd.V_reads' (Kd.V_mono (ok' := (fun k_ => ((P0_ k_ ∨ P1_ k_) ∨ w.heap.size ≤ k_) ∧ some k_ ≠ (.slice Ao21 y111.length co21 : Value).ownBlock)) (HO_1.out) (fun k_ hk => ⟨hk.1, hk.2⟩))).2.1 (Kd.V_F (Kd.V_mono (ok' := (fun k_ => ((P0_ k_ ∨ P1_ k_) ∨ w.heap.size ≤ k_) ∧ some k_ ≠ (.slice Ao21 y111.length co21 : Value).ownBlock)) (HO_1.out) (fun k_ hk => ⟨hk.1, hk.2⟩))))) (Reps.one (show Kd.FK (Kd.slice 9 Kd.string) _ _ l0 [.slice A0 l0.length c0] from (Kd.FK_slice_mk (Kd.V_reads' (Kd.V_mono (ok' := (fun k_ => ((P0_ k_ ∨ P1_ k_) ∨ w.heap.size ≤ k_) ∧ some k_ ≠ (.slice Ao21 y111.length co21 : Value).ownBlock)) (HO_0.out) (fun k_ hk => ⟨hk.1, hk.2⟩))).2.1 (Kd.V_F (Kd.V_mono (ok' := (fun k_ => ((P0_ k_ ∨ P1_ k_) ∨ w.heap.size ≤ k_) ∧ some k_ ≠ (.slice Ao21 y111.length co21 : Value).ownBlock)) (HO_0.out) (fun k_ hk => ⟨hk.1, hk.2⟩))))) (Reps.one (show Kd.FK (Kd.slice 9 Kd.string) _ _ l1 [.slice A1 l1.length c1] from (Kd.FK_slice_mk (Kd.V_reads' (Kd.V_mono (ok' := (fun k_ => ((P0_ k_ ∨ P1_ k_) ∨ w.heap.size ≤ k_) ∧ some k_ ≠ (.slice Ao21 y111.length co21 : Value).ownBlock)) (HO_1.out) (fun k_ hk => ⟨hk.1, hk.2⟩))).2.1 (Kd.V_F (Kd.V_mono (ok' := (fun k_ => ((P0_ k_ ∨ P1_ k_) ∨ w.heap.size ≤ k_) ∧ some k_ ≠ (.slice Ao21 y111.length co21 : Value).ownBlock)) (HO_1.out) (fun k_ hk => ⟨hk.1, hk.2⟩))))) (Reps.none _ _)))))); intro v117 w32 ho33 hb hg_ hnew_; clear hg_ hnew_; (first | rw [← Ny116.out] at ho33 | (simp only [Int.reduceToNat] at ho33; rw [← Ny116.out] at ho33)); have n0_ := Aside0.mk (Kd.V_elder' (by (with_reducible repeat (first | apply Kd.V_alloc | apply Kd.V_drewN | apply Kd.V_drew)); exact HO_0.out) (Kd.N_base ho33) hb); have n1_ := Aside0.mk (Kd.V_elder' (by (with_reducible repeat (first | apply Kd.V_alloc | apply Kd.V_drewN | apply Kd.V_drew)); exact HO_1.out) (Kd.N_base ho33) hb); have n2_ := Aside0.mk (Kd.R_below (by (with_reducible repeat (first | apply Kd.R_alloc | apply Kd.R_drewN | apply Kd.R_drew)); exact HO_6.out) hb); have n3_ := Aside0.mk (Kd.N_lower ho33 (below_size (by repeat (first | (with_reducible first | exact HB.out | apply below_alloc | apply pw_below_drewN | apply below_drew1) | exact HB.out)))); have n4_ := Aside0.mk (below_step (by repeat (first | (with_reducible first | exact HB.out | apply below_alloc | apply pw_below_drewN | apply below_drew1) | exact HB.out)) hb); clear HO_0; clear HO_1; clear HO_6; clear HB; have HO_0 := n0_; have HO_1 := n1_; have HO_6 := n2_; have HO118 := n3_; have HB := n4_; clear n0_ n1_ n2_ n3_ n4_; clear hb ho33; obtain ⟨Ao34, co34, eo34⟩ := Kd.N_slice HO118.out; subst eo34) | (go_at_call 60; (with_reducible refine (token_Ids.calls k2 _ _ y116 t119 _ ?side1 ?side2 A30.out).mono ?_); (case side1 => repeat (first | exact (Kd.N_reads' HO118.out).2.2 | (with_reducible refine Kd.C_alloc ?_ _) | (with_reducible refine Kd.C_drewN ?_ _) | (with_reducible refine Kd.C_drew ?_))); (case side2 => exact (Kd.N_reads' HO118.out).2.1); rintro e w35 ⟨v120, rfl, ho0, hb⟩; have n0_ := Aside0.mk (Kd.V_elder' (by (with_reducible repeat (first | apply Kd.V_alloc | apply Kd.V_drewN | apply Kd.V_drew)); exact HO_0.out) (Kd.N_base (Kd.S_N ho0)) hb); have n1_ := Aside0.mk (Kd.V_elder' (by (with_reducible repeat (first | apply Kd.V_alloc | apply Kd.V_drewN | apply Kd.V_drew)); exact HO_1.out) (Kd.N_base (Kd.S_N ho0)) hb); have n2_ := Aside0.mk (Kd.R_below (by (with_reducible repeat (first | apply Kd.R_alloc | apply Kd.R_drewN | apply Kd.R_drew)); exact HO_6.out) hb); have n3_ := Aside0.mk (Kd.N_elder' (by (with_reducible repeat (first | apply Kd.N_alloc | apply Kd.N_drewN | apply Kd.N_drew)); exact HO118.out) (Kd.N_base (Kd.S_N ho0)) hb); have n4_ := Aside0.mk (Kd.N_lower (Kd.N_mono (ok' := fun k_ => ((P0_ k_ ∨ P1_ k_) ∨ w.heap.size ≤ k_) ∧ some k_ ≠ (.slice Ao21 y111.length co21 : Value).ownBlock ∧ some k_ ≠ (.slice Ao34 y116.length co34 : Value).ownBlock) (Kd.S_N (Kd.S_bound ho0)) (fun k_ hk_ => ⟨(.inr (Nat.le_trans (below_size (by repeat (first | (with_reducible first | exact HB.out | apply below_alloc | apply pw_below_drewN | apply below_drew1) | exact HB.out))) hk_.2.1)), (Kd.fresh' (Kd.R_lt (by (with_reducible repeat (first | apply Kd.R_alloc | apply Kd.R_drewN | apply Kd.R_drew)); exact HO_6.out)) k_ hk_.2.1), (Kd.fresh' (Kd.N_lt (by (with_reducible repeat (first | apply Kd.N_alloc | apply Kd.N_drewN | apply Kd.N_drew)); exact HO118.out)) k_ hk_.2.1)⟩)) (below_size (by repeat (first | (with_reducible first | exact HB.out | apply below_alloc | apply pw_below_drewN | apply below_drew1) | exact HB.out)))); have n5_ := Aside0.mk (below_step (by repeat (first | (with_reducible first | exact HB.out | apply below_alloc | apply pw_below_drewN | apply below_drew1) | exact HB.out)) hb); clear HO_0; clear HO_1; clear HO_6; clear HO118; clear HB; have HO_0 := n0_; have HO_1 := n1_; have HO_6 := n2_; have HO118 := n3_; have HO121 := n4_; have HB := n5_; clear n0_ n1_ n2_ n3_ n4_ n5_; (try clear hb); (try clear hb2); (try clear hk); (try clear hi); (try clear ho0))); go_upto_region 18 with (first | ((with_reducible refine gate_dst (N := 62) rfl ?_); refine Kd.N_lit (Kd.slice 9 Kd.string) _ 24 ?hg (N' := 62) ?hd (xs := ([l0, l1, l0, l1] : List (List ByteArray))) (inner := [.slice A0 l0.length c0, .slice A1 l1.length c1, .slice A0 l0.length c0, .slice A1 l1.length c1]) (ok := (fun k_ => ((P0_ k_ ∨ P1_ k_) ∨ w.heap.size ≤ k_) ∧ some k_ ≠ (.slice Ao21 y111.length co21 : Value).ownBlock)) (okp := (fun k_ => ((P0_ k_ ∨ P1_ k_) ∨ w.heap.size ≤ k_) ∧ some k_ ≠ (.slice Ao21 y111.length co21 : Value).ownBlock)) ?hr ?hp (fun _ hk => hk) ((show ∀ k_, wr.heap.size ≤ k_ → (fun k_ => ((P0_ k_ ∨ P1_ k_) ∨ w.heap.size ≤ k_) ∧ some k_ ≠ (.slice Ao21 y111.length co21 : Value).ownBlock) k_ from fun k_ hk => ⟨(.inr (Nat.le_trans (below_size (by repeat (first | (with_reducible first | exact HB.out | apply below_alloc | apply pw_below_drewN | apply below_drew1) | exact HB.out))) hk)), Kd.fresh' (Kd.R_lt (by (with_reducible repeat (first | apply Kd.R_alloc | apply Kd.R_drewN | apply Kd.R_drew)); exact HO_6.out)) k_ hk⟩) _ (Nat.le_refl _)) (Below.refl _ _) (Nat.le_refl _) (by simp) ?_; (case hd => rfl); (case hg => rfl); (case hr => first | (go_simp; done) | (go_simp; rfl)); (case hp => exact (Reps.one (show Kd.FK (Kd.slice 9 Kd.string) _ _ l0 [.slice A0 l0.length c0] from (Kd.FK_slice_mk (Kd.V_reads' (Kd.V_mono (ok' := (fun k_ => ((P0_ k_ ∨ P1_ k_) ∨ w.heap.size ≤ k_) ∧ some k_ ≠ (.slice Ao21 y111.length co21 : Value).ownBlock)) (HO_0.out) (fun k_ hk => ⟨hk.1, hk.2⟩))).2.1 (Kd.V_F (Kd.V_mono (ok' := (fun k_ => ((P0_ k_ ∨ P1_ k_) ∨ w.heap.size ≤ k_) ∧ some k_ ≠ (.slice Ao21 y111.length co21 : Value).ownBlock)) (HO_0.out) (fun k_ hk => ⟨hk.1, hk.2⟩))))) (Reps.one (show Kd.FK (Kd.slice 9 Kd.string) _ _ l1 [.slice A1 l1.length c1] from (Kd.FK_slice_mk (Kd.V_reads' (Kd.V_mono (ok' := (fun k_ => ((P0_ k_ ∨ P1_ k_) ∨ w.heap.size ≤ k_) ∧ some k_ ≠ (.slice Ao21 y111.length co21 : Value).ownBlock)) (HO_1.out) (fun k_ hk => ⟨hk.1, hk.2⟩))).2.1 (Kd.V_F (Kd.V_mono (ok' := (fun k_ => ((P0_ k_ ∨ P1_ k_) ∨ w.heap.size ≤ k_) ∧ some k_ ≠ (.slice Ao21 y111.length co21 : Value).ownBlock)) (HO_1.out) (fun k_ hk => ⟨hk.1, hk.2⟩))))) (Reps.one (show Kd.FK (Kd.slice 9 Kd.string) _ _ l0 [.slice A0 l0.length c0] from (Kd.FK_slice_mk (Kd.V_reads' (Kd.V_mono (ok' := (fun k_ => ((P0_ k_ ∨ P1_ k_) ∨ w.heap.size ≤ k_) ∧ some k_ ≠ (.slice Ao21 y111.length co21 : Value).ownBlock)) (HO_0.out) (fun k_ hk => ⟨hk.1, hk.2⟩))).2.1 (Kd.V_F (Kd.V_mono (ok' := (fun k_ => ((P0_ k_ ∨ P1_ k_) ∨ w.heap.size ≤ k_) ∧ some k_ ≠ (.slice Ao21 y111.length co21 : Value).ownBlock)) (HO_0.out) (fun k_ hk => ⟨hk.1, hk.2⟩))))) (Reps.one (show Kd.FK (Kd.slice 9 Kd.string) _ _ l1 [.slice A1 l1.length c1] from (Kd.FK_slice_mk (Kd.V_reads' (Kd.V_mono (ok' := (fun k_ => ((P0_ k_ ∨ P1_ k_) ∨ w.heap.size ≤ k_) ∧ some k_ ≠ (.slice Ao21 y111.length co21 : Value).ownBlock)) (HO_1.out) (fun k_ hk => ⟨hk.1, hk.2⟩))).2.1 (Kd.V_F (Kd.V_mono (ok' := (fun k_ => ((P0_ k_ ∨ P1_ k_) ∨ w.heap.size ≤ k_) ∧ some k_ ≠ (.slice Ao21 y111.length co21 : Value).ownBlock)) (HO_1.out) (fun k_ hk => ⟨hk.1, hk.2⟩))))) (Reps.none _ _)))))); intro v117 w32 ho33 hb hg_ hnew_; clear hg_ hnew_; (first | rw [← Ny116.out] at ho33 | (simp only [Int.reduceToNat] at ho33; rw [← Ny116.out] at ho33)); have n0_ := Aside0.mk (Kd.V_elder' (by (with_reducible repeat (first | apply Kd.V_alloc | apply Kd.V_drewN | apply Kd.V_drew)); exact HO_0.out) (Kd.N_base ho33) hb); have n1_ := Aside0.mk (Kd.V_elder' (by (with_reducible repeat (first | apply Kd.V_alloc | apply Kd.V_drewN | apply Kd.V_drew)); exact HO_1.out) (Kd.N_base ho33) hb); have n2_ := Aside0.mk (Kd.R_below (by (with_reducible repeat (first | apply Kd.R_alloc | apply Kd.R_drewN | apply Kd.R_drew)); exact HO_6.out) hb); have n3_ := Aside0.mk (Kd.N_lower ho33 (below_size (by repeat (first | (with_reducible first | exact HB.out | apply below_alloc | apply pw_below_drewN | apply below_drew1) | exact HB.out)))); have n4_ := Aside0.mk (below_step (by repeat (first | (with_reducible first | exact HB.out | apply below_alloc | apply pw_below_drewN | apply below_drew1) | exact HB.out)) hb); clear HO_0; clear HO_1; clear HO_6; clear HB; have HO_0 := n0_; have HO_1 := n1_; have HO_6 := n2_; have HO118 := n3_; have HB := n4_; clear n0_ n1_ n2_ n3_ n4_; clear hb ho33; obtain ⟨Ao34, co34, eo34⟩ := Kd.N_slice HO118.out; subst eo34) | (go_at_call 60; (with_reducible refine (token_Ids.calls k2 _ _ y116 t119 _ ?side1 ?side2 A30.out).mono ?_); (case side1 => repeat (first | exact (Kd.N_reads' HO118.out).2.2 | (with_reducible refine Kd.C_alloc ?_ _) | (with_reducible refine Kd.C_drewN ?_ _) | (with_reducible refine Kd.C_drew ?_))); (case side2 => exact (Kd.N_reads' HO118.out).2.1); rintro e w35 ⟨v120, rfl, ho0, hb⟩; have n0_ := Aside0.mk (Kd.V_elder' (by (with_reducible repeat (first | apply Kd.V_alloc | apply Kd.V_drewN | apply Kd.V_drew)); exact HO_0.out) (Kd.N_base (Kd.S_N ho0)) hb); have n1_ := Aside0.mk (Kd.V_elder' (by (with_reducible repeat (first | apply Kd.V_alloc | apply Kd.V_drewN | apply Kd.V_drew)); exact HO_1.out) (Kd.N_base (Kd.S_N ho0)) hb); have n2_ := Aside0.mk (Kd.R_below (by (with_reducible repeat (first | apply Kd.R_alloc | apply Kd.R_drewN | apply Kd.R_drew)); exact HO_6.out) hb); have n3_ := Aside0.mk (Kd.N_elder' (by (with_reducible repeat (first | apply Kd.N_alloc | apply Kd.N_drewN | apply Kd.N_drew)); exact HO118.out) (Kd.N_base (Kd.S_N ho0)) hb); have n4_ := Aside0.mk (Kd.N_lower (Kd.N_mono (ok' := fun k_ => ((P0_ k_ ∨ P1_ k_) ∨ w.heap.size ≤ k_) ∧ some k_ ≠ (.slice Ao21 y111.length co21 : Value).ownBlock ∧ some k_ ≠ (.slice Ao34 y116.length co34 : Value).ownBlock) (Kd.S_N (Kd.S_bound ho0)) (fun k_ hk_ => ⟨(.inr (Nat.le_trans (below_size (by repeat (first | (with_reducible first | exact HB.out | apply below_alloc | apply pw_below_drewN | apply below_drew1) | exact HB.out))) hk_.2.1)), (Kd.fresh' (Kd.R_lt (by (with_reducible repeat (first | apply Kd.R_alloc | apply Kd.R_drewN | apply Kd.R_drew)); exact HO_6.out)) k_ hk_.2.1), (Kd.fresh' (Kd.N_lt (by (with_reducible repeat (first | apply Kd.N_alloc | apply Kd.N_drewN | apply Kd.N_drew)); exact HO118.out)) k_ hk_.2.1)⟩)) (below_size (by repeat (first | (with_reducible first | exact HB.out | apply below_alloc | apply pw_below_drewN | apply below_drew1) | exact HB.out)))); have n5_ := Aside0.mk (below_step (by repeat (first | (with_reducible first | exact HB.out | apply below_alloc | apply pw_below_drewN | apply below_drew1) | exact HB.out)) hb); clear HO_0; clear HO_1; clear HO_6; clear HO118; clear HB; have HO_0 := n0_; have HO_1 := n1_; have HO_6 := n2_; have HO118 := n3_; have HO121 := n4_; have HB := n5_; clear n0_ n1_ n2_ n3_ n4_ n5_; (try clear hb); (try clear hb2); (try clear hk); (try clear hi); (try clear ho0))))
                  (try simp only [Act.put, List.setIfInBounds_toArray, List.set_cons_zero, List.set_cons_succ])
                  go_cut [86] (fun v86 wc => ∃ (kq : Nat) (x86_30 : Bool), v86 = .bool x86_30 ∧ Aside0 (emendationlaw03_TokenLists.j3 kq x5_2 t119 x86_30 = some r) ∧ Aside0 (kq ≤ k2) ∧ Aside0 (Kd.N (Kd.slice 3 (Kd.int .i64)) 29 wc w.heap.size (fun k_ => ((P0_ k_ ∨ P1_ k_) ∨ w.heap.size ≤ k_)) v120 t119) ∧ Aside0 (Below w.heap.size w wc))
                  case first =>
                    have H := HC31.out
                    clear HC31
                    by_cases c36 : (t119.length : Int) = 4
                    · rw [if_pos c36] at H
                      have c36b0 : ((t119.length : Int) == 4) = true := beq_iff_eq.mpr c36
                      have c36b1 : ((t119.length : Int) != 4) = false := bne_eq_false_iff_eq.mpr c36
                      clear c36
                      (first | rw [c36b0] | (simp only [i64_w, i32_w]; rw [c36b0]) | skip)
                      by_cases c37 : 0 < (t119.length : Int)
                      · rw [if_pos c37] at H
                        have c37b0 : decide (0 < (t119.length : Int)) = true := decide_eq_true c37
                        have c37b1 : decide (0 < t119.length) = true := decide_eq_true (by omega)
                        clear c37
                        by_cases c38 : 2 < (t119.length : Int)
                        · rw [if_pos c38] at H
                          have c38b0 : decide (2 < (t119.length : Int)) = true := decide_eq_true c38
                          have c38b1 : decide (2 < t119.length) = true := decide_eq_true (by omega)
                          clear c38
                          replace H := Option.bind_eq_some_iff.mp H
                          obtain ⟨t124, A390, H⟩ := H
                          replace H : (if t124 = true then (if 1 < (t119.length : Int) then (if 3 < (t119.length : Int) then ((emendationref03_Same.f k2 (rd_L3 t119 1) (rd_L3 t119 3)).bind fun t127 => (emendationlaw03_TokenLists.j3 k2 x5_2 t119 (!t127))) else (none)) else (none)) else (emendationlaw03_TokenLists.j3 k2 x5_2 t119 true)) = some r := H
                          have A39 := Aside0.mk A390
                          clear A390
                          by_cases c40 : t124 = true
                          · subst c40
                            have H1 : (if 1 < (t119.length : Int) then (if 3 < (t119.length : Int) then ((emendationref03_Same.f k2 (rd_L3 t119 1) (rd_L3 t119 3)).bind fun t127 => (emendationlaw03_TokenLists.j3 k2 x5_2 t119 (!t127))) else (none)) else (none)) = some r := by rw [if_pos rfl] at H; exact H
                            clear H
                            have H := H1
                            clear H1
                            by_cases c41 : 1 < (t119.length : Int)
                            · rw [if_pos c41] at H
                              have c41b0 : decide (1 < (t119.length : Int)) = true := decide_eq_true c41
                              have c41b1 : decide (1 < t119.length) = true := decide_eq_true (by omega)
                              clear c41
                              by_cases c42 : 3 < (t119.length : Int)
                              · rw [if_pos c42] at H
                                have c42b0 : decide (3 < (t119.length : Int)) = true := decide_eq_true c42
                                have c42b1 : decide (3 < t119.length) = true := decide_eq_true (by omega)
                                clear c42
                                replace H := Option.bind_eq_some_iff.mp H
                                obtain ⟨t127, A430, H⟩ := H
                                replace H : (emendationlaw03_TokenLists.j3 k2 x5_2 t119 (!t127)) = some r := H
                                have A43 := Aside0.mk A430
                                clear A430
                                have H' := Aside0.mk H
                                clear H
                                obtain ⟨Ao44, co44, eo44⟩ := Kd.N_slice HO121.out
                                subst eo44
                                have p122 : 0 ≤ (0 : Int) := (by omega)
                                have q122 : 0 < (t119.length : Int) := of_decide_eq_true (by first | (with_reducible assumption) | assumption)
                                obtain ⟨ad122, A122_0, c122_0, e122, hx122_0, hl122_0, hi122_0⟩ := at_L3 (Kd.N_reads' HO121.out).2.2 0 p122 q122
                                cases e122
                                obtain ⟨ce122, hce122, hMe122, hcc122⟩ := Kd.N_get HO121.out [] 0 p122 (by first | exact q122 | exact of_decide_eq_true (by first | (with_reducible assumption) | assumption) | (have e_ := (Kd.N_reads' HO121.out).1; omega))
                                obtain ⟨ua122_0, uc122_0, rfl, ul122_0, ge122_0⟩ := Kd.FK_slice_open hMe122
                                have hv122_0 := hcc122 0 _ rfl
                                rw [Nat.add_zero, show ((Kd.slice 3 (Kd.int .i64))).sz = 1 from rfl, Nat.mul_one] at hv122_0
                                replace hv122_0 := Option.some.inj (hv122_0.symm.trans hx122_0)
                                injection hv122_0 with hva_ hvn_ hvc_
                                rw [hva_] at ge122_0
                                rw [hvc_] at ul122_0
                                have HL122_0 := Aside0.mk (show Kd.V (Kd.int .i64) 3 _ w.heap.size _ _ (rd_L3 t119 0) from Kd.V_mk ul122_0 ge122_0)
                                clear hva_ hvn_ hvc_ ge122_0 ul122_0
                                clear hcc122 hce122
                                have qi122 : (0 < t119.length) = True := eq_true (by omega)
                                (try rw [show ((0 : Int)).toNat = 0 from rfl] at hx122_0)
                                (try rw [Addr.add_zero'] at hx122_0)
                                have HR122_0 := Aside0.mk hi122_0
                                have HC122_0 := Aside0.mk hl122_0
                                clear hi122_0 hl122_0
                                replace p122 := eq_true p122
                                replace q122 := eq_true q122
                                have p123 : 0 ≤ (2 : Int) := (by omega)
                                have q123 : 2 < (t119.length : Int) := of_decide_eq_true (by first | (with_reducible assumption) | assumption)
                                obtain ⟨ad123, A123_0, c123_0, e123, hx123_0, hl123_0, hi123_0⟩ := at_L3 (Kd.N_reads' HO121.out).2.2 2 p123 q123
                                obtain rfl : ad122 = ad123 := (by injection e123)
                                obtain ⟨ce123, hce123, hMe123, hcc123⟩ := Kd.N_get HO121.out [] 2 p123 (by first | exact q123 | exact of_decide_eq_true (by first | (with_reducible assumption) | assumption) | (have e_ := (Kd.N_reads' HO121.out).1; omega))
                                obtain ⟨ua123_0, uc123_0, rfl, ul123_0, ge123_0⟩ := Kd.FK_slice_open hMe123
                                have hv123_0 := hcc123 0 _ rfl
                                rw [Nat.add_zero, show ((Kd.slice 3 (Kd.int .i64))).sz = 1 from rfl, Nat.mul_one] at hv123_0
                                replace hv123_0 := Option.some.inj (hv123_0.symm.trans hx123_0)
                                injection hv123_0 with hva_ hvn_ hvc_
                                rw [hva_] at ge123_0
                                rw [hvc_] at ul123_0
                                have HL123_0 := Aside0.mk (show Kd.V (Kd.int .i64) 3 _ w.heap.size _ _ (rd_L3 t119 2) from Kd.V_mk ul123_0 ge123_0)
                                clear hva_ hvn_ hvc_ ge123_0 ul123_0
                                clear hcc123 hce123
                                (try simp only [show (2 : Int).toNat = 2 from rfl, Nat.reduceMul, Nat.reduceEqDiff, Go.Addr.add, ↓reduceIte] at hx123_0)
                                have qi123 : (2 < t119.length) = True := eq_true (by omega)
                                (try rw [show ((2 : Int)).toNat = 2 from rfl] at hx123_0)
                                have HR123_0 := Aside0.mk hi123_0
                                have HC123_0 := Aside0.mk hl123_0
                                clear hi123_0 hl123_0
                                replace p123 := eq_true p123
                                replace q123 := eq_true q123
                                go_wp2_with (first | (go_at_call 59; (with_reducible refine (emendationref03_Same.calls k2 _ _ (rd_L3 t119 0) _ _ (rd_L3 t119 2) true _ ?side1 ?side2 ?side3 ?side4 A39.out).mono ?_); (case side1 => repeat (first | exact (by repeat (first | (with_reducible exact HR122_0.out) | (with_reducible refine Kd.C_alloc ?_ _) | (with_reducible refine Kd.C_drewN ?_ _) | (with_reducible refine Kd.C_drew ?_) | exact HR122_0.out)) | (with_reducible refine Kd.C_alloc ?_ _) | (with_reducible refine Kd.C_drewN ?_ _) | (with_reducible refine Kd.C_drew ?_))); (case side2 => exact HC122_0.out); (case side3 => repeat (first | exact (by repeat (first | (with_reducible exact HR123_0.out) | (with_reducible refine Kd.C_alloc ?_ _) | (with_reducible refine Kd.C_drewN ?_ _) | (with_reducible refine Kd.C_drew ?_) | exact HR123_0.out)) | (with_reducible refine Kd.C_alloc ?_ _) | (with_reducible refine Kd.C_drewN ?_ _) | (with_reducible refine Kd.C_drew ?_))); (case side4 => exact HC123_0.out); rintro e w' ⟨rfl, ⟨nd, rfl⟩⟩; (try first | exact ⟨rfl, _, World.drewN_drewN _ _ _⟩ | exact ⟨rfl, _, Eq.trans (World.drewN_drewN _ _ _) (congrArg (World.drewN _) (Nat.add_assoc _ _ _))⟩); have p125 : 0 ≤ (1 : Int) := (by omega); have q125 : 1 < (t119.length : Int) := of_decide_eq_true (by first | (with_reducible assumption) | assumption); obtain ⟨ad125, A125_0, c125_0, e125, hx125_0, hl125_0, hi125_0⟩ := at_L3 (Kd.N_reads' HO121.out).2.2 1 p125 q125; obtain rfl : ad122 = ad125 := (by injection e125); obtain ⟨ce125, hce125, hMe125, hcc125⟩ := Kd.N_get HO121.out [] 1 p125 (by first | exact q125 | exact of_decide_eq_true (by first | (with_reducible assumption) | assumption) | (have e_ := (Kd.N_reads' HO121.out).1; omega)); obtain ⟨ua125_0, uc125_0, rfl, ul125_0, ge125_0⟩ := Kd.FK_slice_open hMe125; have hv125_0 := hcc125 0 _ rfl; rw [Nat.add_zero, show ((Kd.slice 3 (Kd.int .i64))).sz = 1 from rfl, Nat.mul_one] at hv125_0; replace hv125_0 := Option.some.inj (hv125_0.symm.trans hx125_0); injection hv125_0 with hva_ hvn_ hvc_; rw [hva_] at ge125_0; rw [hvc_] at ul125_0; have HL125_0 := Aside0.mk (show Kd.V (Kd.int .i64) 3 _ w.heap.size _ _ (rd_L3 t119 1) from Kd.V_mk ul125_0 ge125_0); clear hva_ hvn_ hvc_ ge125_0 ul125_0; clear hcc125 hce125; (try simp only [show (1 : Int).toNat = 1 from rfl, Nat.reduceMul, Nat.reduceEqDiff, Go.Addr.add, ↓reduceIte] at hx125_0); have qi125 : (1 < t119.length) = True := eq_true (by omega); (try rw [show ((1 : Int)).toNat = 1 from rfl] at hx125_0); have HR125_0 := Aside0.mk hi125_0; have HC125_0 := Aside0.mk hl125_0; clear hi125_0 hl125_0; replace p125 := eq_true p125; replace q125 := eq_true q125; have p126 : 0 ≤ (3 : Int) := (by omega); have q126 : 3 < (t119.length : Int) := of_decide_eq_true (by first | (with_reducible assumption) | assumption); obtain ⟨ad126, A126_0, c126_0, e126, hx126_0, hl126_0, hi126_0⟩ := at_L3 (Kd.N_reads' HO121.out).2.2 3 p126 q126; obtain rfl : ad122 = ad126 := (by injection e126); obtain ⟨ce126, hce126, hMe126, hcc126⟩ := Kd.N_get HO121.out [] 3 p126 (by first | exact q126 | exact of_decide_eq_true (by first | (with_reducible assumption) | assumption) | (have e_ := (Kd.N_reads' HO121.out).1; omega)); obtain ⟨ua126_0, uc126_0, rfl, ul126_0, ge126_0⟩ := Kd.FK_slice_open hMe126; have hv126_0 := hcc126 0 _ rfl; rw [Nat.add_zero, show ((Kd.slice 3 (Kd.int .i64))).sz = 1 from rfl, Nat.mul_one] at hv126_0; replace hv126_0 := Option.some.inj (hv126_0.symm.trans hx126_0); injection hv126_0 with hva_ hvn_ hvc_; rw [hva_] at ge126_0; rw [hvc_] at ul126_0; have HL126_0 := Aside0.mk (show Kd.V (Kd.int .i64) 3 _ w.heap.size _ _ (rd_L3 t119 3) from Kd.V_mk ul126_0 ge126_0); clear hva_ hvn_ hvc_ ge126_0 ul126_0; clear hcc126 hce126; (try simp only [show (3 : Int).toNat = 3 from rfl, Nat.reduceMul, Nat.reduceEqDiff, Go.Addr.add, ↓reduceIte] at hx126_0); have qi126 : (3 < t119.length) = True := eq_true (by omega); (try rw [show ((3 : Int)).toNat = 3 from rfl] at hx126_0); have HR126_0 := Aside0.mk hi126_0; have HC126_0 := Aside0.mk hl126_0; clear hi126_0 hl126_0; replace p126 := eq_true p126; replace q126 := eq_true q126) | (go_at_call 59; (with_reducible refine (emendationref03_Same.calls k2 _ _ (rd_L3 t119 1) _ _ (rd_L3 t119 3) t127 _ ?side1 ?side2 ?side3 ?side4 A43.out).mono ?_); (case side1 => repeat (first | exact (by repeat (first | (with_reducible exact HR125_0.out) | (with_reducible refine Kd.C_alloc ?_ _) | (with_reducible refine Kd.C_drewN ?_ _) | (with_reducible refine Kd.C_drew ?_) | exact HR125_0.out)) | (with_reducible refine Kd.C_alloc ?_ _) | (with_reducible refine Kd.C_drewN ?_ _) | (with_reducible refine Kd.C_drew ?_))); (case side2 => exact HC125_0.out); (case side3 => repeat (first | exact (by repeat (first | (with_reducible exact HR126_0.out) | (with_reducible refine Kd.C_alloc ?_ _) | (with_reducible refine Kd.C_drewN ?_ _) | (with_reducible refine Kd.C_drew ?_) | exact HR126_0.out)) | (with_reducible refine Kd.C_alloc ?_ _) | (with_reducible refine Kd.C_drewN ?_ _) | (with_reducible refine Kd.C_drew ?_))); (case side4 => exact HC126_0.out); rintro e w' ⟨rfl, ⟨nd, rfl⟩⟩; (try first | exact ⟨rfl, _, World.drewN_drewN _ _ _⟩ | exact ⟨rfl, _, Eq.trans (World.drewN_drewN _ _ _) (congrArg (World.drewN _) (Nat.add_assoc _ _ _))⟩)))
                                repeat (go_quiet (first | (go_at_call 59; (with_reducible refine (emendationref03_Same.calls k2 _ _ (rd_L3 t119 0) _ _ (rd_L3 t119 2) true _ ?side1 ?side2 ?side3 ?side4 A39.out).mono ?_); (case side1 => repeat (first | exact (by repeat (first | (with_reducible exact HR122_0.out) | (with_reducible refine Kd.C_alloc ?_ _) | (with_reducible refine Kd.C_drewN ?_ _) | (with_reducible refine Kd.C_drew ?_) | exact HR122_0.out)) | (with_reducible refine Kd.C_alloc ?_ _) | (with_reducible refine Kd.C_drewN ?_ _) | (with_reducible refine Kd.C_drew ?_))); (case side2 => exact HC122_0.out); (case side3 => repeat (first | exact (by repeat (first | (with_reducible exact HR123_0.out) | (with_reducible refine Kd.C_alloc ?_ _) | (with_reducible refine Kd.C_drewN ?_ _) | (with_reducible refine Kd.C_drew ?_) | exact HR123_0.out)) | (with_reducible refine Kd.C_alloc ?_ _) | (with_reducible refine Kd.C_drewN ?_ _) | (with_reducible refine Kd.C_drew ?_))); (case side4 => exact HC123_0.out); rintro e w' ⟨rfl, ⟨nd, rfl⟩⟩; (try first | exact ⟨rfl, _, World.drewN_drewN _ _ _⟩ | exact ⟨rfl, _, Eq.trans (World.drewN_drewN _ _ _) (congrArg (World.drewN _) (Nat.add_assoc _ _ _))⟩); have p125 : 0 ≤ (1 : Int) := (by omega); have q125 : 1 < (t119.length : Int) := of_decide_eq_true (by first | (with_reducible assumption) | assumption); obtain ⟨ad125, A125_0, c125_0, e125, hx125_0, hl125_0, hi125_0⟩ := at_L3 (Kd.N_reads' HO121.out).2.2 1 p125 q125; obtain rfl : ad122 = ad125 := (by injection e125); obtain ⟨ce125, hce125, hMe125, hcc125⟩ := Kd.N_get HO121.out [] 1 p125 (by first | exact q125 | exact of_decide_eq_true (by first | (with_reducible assumption) | assumption) | (have e_ := (Kd.N_reads' HO121.out).1; omega)); obtain ⟨ua125_0, uc125_0, rfl, ul125_0, ge125_0⟩ := Kd.FK_slice_open hMe125; have hv125_0 := hcc125 0 _ rfl; rw [Nat.add_zero, show ((Kd.slice 3 (Kd.int .i64))).sz = 1 from rfl, Nat.mul_one] at hv125_0; replace hv125_0 := Option.some.inj (hv125_0.symm.trans hx125_0); injection hv125_0 with hva_ hvn_ hvc_; rw [hva_] at ge125_0; rw [hvc_] at ul125_0; have HL125_0 := Aside0.mk (show Kd.V (Kd.int .i64) 3 _ w.heap.size _ _ (rd_L3 t119 1) from Kd.V_mk ul125_0 ge125_0); clear hva_ hvn_ hvc_ ge125_0 ul125_0; clear hcc125 hce125; (try simp only [show (1 : Int).toNat = 1 from rfl, Nat.reduceMul, Nat.reduceEqDiff, Go.Addr.add, ↓reduceIte] at hx125_0); have qi125 : (1 < t119.length) = True := eq_true (by omega); (try rw [show ((1 : Int)).toNat = 1 from rfl] at hx125_0); have HR125_0 := Aside0.mk hi125_0; have HC125_0 := Aside0.mk hl125_0; clear hi125_0 hl125_0; replace p125 := eq_true p125; replace q125 := eq_true q125; have p126 : 0 ≤ (3 : Int) := (by omega); have q126 : 3 < (t119.length : Int) := of_decide_eq_true (by first | (with_reducible assumption) | assumption); obtain ⟨ad126, A126_0, c126_0, e126, hx126_0, hl126_0, hi126_0⟩ := at_L3 (Kd.N_reads' HO121.out).2.2 3 p126 q126; obtain rfl : ad122 = ad126 := (by injection e126); obtain ⟨ce126, hce126, hMe126, hcc126⟩ := Kd.N_get HO121.out [] 3 p126 (by first | exact q126 | exact of_decide_eq_true (by first | (with_reducible assumption) | assumption) | (have e_ := (Kd.N_reads' HO121.out).1; omega)); obtain ⟨ua126_0, uc126_0, rfl, ul126_0, ge126_0⟩ := Kd.FK_slice_open hMe126; have hv126_0 := hcc126 0 _ rfl; rw [Nat.add_zero, show ((Kd.slice 3 (Kd.int .i64))).sz = 1 from rfl, Nat.mul_one] at hv126_0; replace hv126_0 := Option.some.inj (hv126_0.symm.trans hx126_0); injection hv126_0 with hva_ hvn_ hvc_; rw [hva_] at ge126_0; rw [hvc_] at ul126_0; have HL126_0 := Aside0.mk (show Kd.V (Kd.int .i64) 3 _ w.heap.size _ _ (rd_L3 t119 3) from Kd.V_mk ul126_0 ge126_0); clear hva_ hvn_ hvc_ ge126_0 ul126_0; clear hcc126 hce126; (try simp only [show (3 : Int).toNat = 3 from rfl, Nat.reduceMul, Nat.reduceEqDiff, Go.Addr.add, ↓reduceIte] at hx126_0); have qi126 : (3 < t119.length) = True := eq_true (by omega); (try rw [show ((3 : Int)).toNat = 3 from rfl] at hx126_0); have HR126_0 := Aside0.mk hi126_0; have HC126_0 := Aside0.mk hl126_0; clear hi126_0 hl126_0; replace p126 := eq_true p126; replace q126 := eq_true q126) | (go_at_call 59; (with_reducible refine (emendationref03_Same.calls k2 _ _ (rd_L3 t119 1) _ _ (rd_L3 t119 3) t127 _ ?side1 ?side2 ?side3 ?side4 A43.out).mono ?_); (case side1 => repeat (first | exact (by repeat (first | (with_reducible exact HR125_0.out) | (with_reducible refine Kd.C_alloc ?_ _) | (with_reducible refine Kd.C_drewN ?_ _) | (with_reducible refine Kd.C_drew ?_) | exact HR125_0.out)) | (with_reducible refine Kd.C_alloc ?_ _) | (with_reducible refine Kd.C_drewN ?_ _) | (with_reducible refine Kd.C_drew ?_))); (case side2 => exact HC125_0.out); (case side3 => repeat (first | exact (by repeat (first | (with_reducible exact HR126_0.out) | (with_reducible refine Kd.C_alloc ?_ _) | (with_reducible refine Kd.C_drewN ?_ _) | (with_reducible refine Kd.C_drew ?_) | exact HR126_0.out)) | (with_reducible refine Kd.C_alloc ?_ _) | (with_reducible refine Kd.C_drewN ?_ _) | (with_reducible refine Kd.C_drew ?_))); (case side4 => exact HC126_0.out); rintro e w' ⟨rfl, ⟨nd, rfl⟩⟩; (try first | exact ⟨rfl, _, World.drewN_drewN _ _ _⟩ | exact ⟨rfl, _, Eq.trans (World.drewN_drewN _ _ _) (congrArg (World.drewN _) (Nat.add_assoc _ _ _))⟩))); try go_wp2_with (first | (go_at_call 59; (with_reducible refine (emendationref03_Same.calls k2 _ _ (rd_L3 t119 0) _ _ (rd_L3 t119 2) true _ ?side1 ?side2 ?side3 ?side4 A39.out).mono ?_); (case side1 => repeat (first | exact (by repeat (first | (with_reducible exact HR122_0.out) | (with_reducible refine Kd.C_alloc ?_ _) | (with_reducible refine Kd.C_drewN ?_ _) | (with_reducible refine Kd.C_drew ?_) | exact HR122_0.out)) | (with_reducible refine Kd.C_alloc ?_ _) | (with_reducible refine Kd.C_drewN ?_ _) | (with_reducible refine Kd.C_drew ?_))); (case side2 => exact HC122_0.out); (case side3 => repeat (first | exact (by repeat (first | (with_reducible exact HR123_0.out) | (with_reducible refine Kd.C_alloc ?_ _) | (with_reducible refine Kd.C_drewN ?_ _) | (with_reducible refine Kd.C_drew ?_) | exact HR123_0.out)) | (with_reducible refine Kd.C_alloc ?_ _) | (with_reducible refine Kd.C_drewN ?_ _) | (with_reducible refine Kd.C_drew ?_))); (case side4 => exact HC123_0.out); rintro e w' ⟨rfl, ⟨nd, rfl⟩⟩; (try first | exact ⟨rfl, _, World.drewN_drewN _ _ _⟩ | exact ⟨rfl, _, Eq.trans (World.drewN_drewN _ _ _) (congrArg (World.drewN _) (Nat.add_assoc _ _ _))⟩); have p125 : 0 ≤ (1 : Int) := (by omega); have q125 : 1 < (t119.length : Int) := of_decide_eq_true (by first | (with_reducible assumption) | assumption); obtain ⟨ad125, A125_0, c125_0, e125, hx125_0, hl125_0, hi125_0⟩ := at_L3 (Kd.N_reads' HO121.out).2.2 1 p125 q125; obtain rfl : ad122 = ad125 := (by injection e125); obtain ⟨ce125, hce125, hMe125, hcc125⟩ := Kd.N_get HO121.out [] 1 p125 (by first | exact q125 | exact of_decide_eq_true (by first | (with_reducible assumption) | assumption) | (have e_ := (Kd.N_reads' HO121.out).1; omega)); obtain ⟨ua125_0, uc125_0, rfl, ul125_0, ge125_0⟩ := Kd.FK_slice_open hMe125; have hv125_0 := hcc125 0 _ rfl; rw [Nat.add_zero, show ((Kd.slice 3 (Kd.int .i64))).sz = 1 from rfl, Nat.mul_one] at hv125_0; replace hv125_0 := Option.some.inj (hv125_0.symm.trans hx125_0); injection hv125_0 with hva_ hvn_ hvc_; rw [hva_] at ge125_0; rw [hvc_] at ul125_0; have HL125_0 := Aside0.mk (show Kd.V (Kd.int .i64) 3 _ w.heap.size _ _ (rd_L3 t119 1) from Kd.V_mk ul125_0 ge125_0); clear hva_ hvn_ hvc_ ge125_0 ul125_0; clear hcc125 hce125; (try simp only [show (1 : Int).toNat = 1 from rfl, Nat.reduceMul, Nat.reduceEqDiff, Go.Addr.add, ↓reduceIte] at hx125_0); have qi125 : (1 < t119.length) = True := eq_true (by omega); (try rw [show ((1 : Int)).toNat = 1 from rfl] at hx125_0); have HR125_0 := Aside0.mk hi125_0; have HC125_0 := Aside0.mk hl125_0; clear hi125_0 hl125_0; replace p125 := eq_true p125; replace q125 := eq_true q125; have p126 : 0 ≤ (3 : Int) := (by omega); have q126 : 3 < (t119.length : Int) := of_decide_eq_true (by first | (with_reducible assumption) | assumption); obtain ⟨ad126, A126_0, c126_0, e126, hx126_0, hl126_0, hi126_0⟩ := at_L3 (Kd.N_reads' HO121.out).2.2 3 p126 q126; obtain rfl : ad122 = ad126 := (by injection e126); obtain ⟨ce126, hce126, hMe126, hcc126⟩ := Kd.N_get HO121.out [] 3 p126 (by first | exact q126 | exact of_decide_eq_true (by first | (with_reducible assumption) | assumption) | (have e_ := (Kd.N_reads' HO121.out).1; omega)); obtain ⟨ua126_0, uc126_0, rfl, ul126_0, ge126_0⟩ := Kd.FK_slice_open hMe126; have hv126_0 := hcc126 0 _ rfl; rw [Nat.add_zero, show ((Kd.slice 3 (Kd.int .i64))).sz = 1 from rfl, Nat.mul_one] at hv126_0; replace hv126_0 := Option.some.inj (hv126_0.symm.trans hx126_0); injection hv126_0 with hva_ hvn_ hvc_; rw [hva_] at ge126_0; rw [hvc_] at ul126_0; have HL126_0 := Aside0.mk (show Kd.V (Kd.int .i64) 3 _ w.heap.size _ _ (rd_L3 t119 3) from Kd.V_mk ul126_0 ge126_0); clear hva_ hvn_ hvc_ ge126_0 ul126_0; clear hcc126 hce126; (try simp only [show (3 : Int).toNat = 3 from rfl, Nat.reduceMul, Nat.reduceEqDiff, Go.Addr.add, ↓reduceIte] at hx126_0); have qi126 : (3 < t119.length) = True := eq_true (by omega); (try rw [show ((3 : Int)).toNat = 3 from rfl] at hx126_0); have HR126_0 := Aside0.mk hi126_0; have HC126_0 := Aside0.mk hl126_0; clear hi126_0 hl126_0; replace p126 := eq_true p126; replace q126 := eq_true q126) | (go_at_call 59; (with_reducible refine (emendationref03_Same.calls k2 _ _ (rd_L3 t119 1) _ _ (rd_L3 t119 3) t127 _ ?side1 ?side2 ?side3 ?side4 A43.out).mono ?_); (case side1 => repeat (first | exact (by repeat (first | (with_reducible exact HR125_0.out) | (with_reducible refine Kd.C_alloc ?_ _) | (with_reducible refine Kd.C_drewN ?_ _) | (with_reducible refine Kd.C_drew ?_) | exact HR125_0.out)) | (with_reducible refine Kd.C_alloc ?_ _) | (with_reducible refine Kd.C_drewN ?_ _) | (with_reducible refine Kd.C_drew ?_))); (case side2 => exact HC125_0.out); (case side3 => repeat (first | exact (by repeat (first | (with_reducible exact HR126_0.out) | (with_reducible refine Kd.C_alloc ?_ _) | (with_reducible refine Kd.C_drewN ?_ _) | (with_reducible refine Kd.C_drew ?_) | exact HR126_0.out)) | (with_reducible refine Kd.C_alloc ?_ _) | (with_reducible refine Kd.C_drewN ?_ _) | (with_reducible refine Kd.C_drew ?_))); (case side4 => exact HC126_0.out); rintro e w' ⟨rfl, ⟨nd, rfl⟩⟩; (try first | exact ⟨rfl, _, World.drewN_drewN _ _ _⟩ | exact ⟨rfl, _, Eq.trans (World.drewN_drewN _ _ _) (congrArg (World.drewN _) (Nat.add_assoc _ _ _))⟩))))
                                go_meet
                                case rel => exact ⟨_, (!t127), (by first | rfl | (simp; done) | (simp [*]; done)), H', ⟨by have := HJ2.out; have := HK2.out; first | omega | exact Nat.le_refl _⟩, ⟨by (with_reducible repeat (first | apply Kd.N_alloc | apply Kd.N_drewN | apply Kd.N_drew)); exact Kd.N_mono HO121.out (fun _ hk => hk.1)⟩, ⟨by repeat (first | (with_reducible first | exact HB.out | apply below_alloc | apply pw_below_drewN | apply below_drew1) | exact HB.out)⟩⟩
                              · rw [if_neg c42] at H
                                exact absurd H (by simp)
                            · rw [if_neg c41] at H
                              exact absurd H (by simp)
                          · replace c40 := Bool.eq_false_iff.mpr c40
                            subst c40
                            have H1 : (emendationlaw03_TokenLists.j3 k2 x5_2 t119 true) = some r := by rw [if_neg (show ¬ (false = true) by decide)] at H; exact H
                            clear H
                            have H := H1
                            clear H1
                            have H' := Aside0.mk H
                            clear H
                            obtain ⟨Ao45, co45, eo45⟩ := Kd.N_slice HO121.out
                            subst eo45
                            have p122 : 0 ≤ (0 : Int) := (by omega)
                            have q122 : 0 < (t119.length : Int) := of_decide_eq_true (by first | (with_reducible assumption) | assumption)
                            obtain ⟨ad122, A122_0, c122_0, e122, hx122_0, hl122_0, hi122_0⟩ := at_L3 (Kd.N_reads' HO121.out).2.2 0 p122 q122
                            cases e122
                            obtain ⟨ce122, hce122, hMe122, hcc122⟩ := Kd.N_get HO121.out [] 0 p122 (by first | exact q122 | exact of_decide_eq_true (by first | (with_reducible assumption) | assumption) | (have e_ := (Kd.N_reads' HO121.out).1; omega))
                            obtain ⟨ua122_0, uc122_0, rfl, ul122_0, ge122_0⟩ := Kd.FK_slice_open hMe122
                            have hv122_0 := hcc122 0 _ rfl
                            rw [Nat.add_zero, show ((Kd.slice 3 (Kd.int .i64))).sz = 1 from rfl, Nat.mul_one] at hv122_0
                            replace hv122_0 := Option.some.inj (hv122_0.symm.trans hx122_0)
                            injection hv122_0 with hva_ hvn_ hvc_
                            rw [hva_] at ge122_0
                            rw [hvc_] at ul122_0
                            have HL122_0 := Aside0.mk (show Kd.V (Kd.int .i64) 3 _ w.heap.size _ _ (rd_L3 t119 0) from Kd.V_mk ul122_0 ge122_0)
                            clear hva_ hvn_ hvc_ ge122_0 ul122_0
                            clear hcc122 hce122
                            have qi122 : (0 < t119.length) = True := eq_true (by omega)
                            (try rw [show ((0 : Int)).toNat = 0 from rfl] at hx122_0)
                            (try rw [Addr.add_zero'] at hx122_0)
                            have HR122_0 := Aside0.mk hi122_0
                            have HC122_0 := Aside0.mk hl122_0
                            clear hi122_0 hl122_0
                            replace p122 := eq_true p122
                            replace q122 := eq_true q122
                            have p123 : 0 ≤ (2 : Int) := (by omega)
                            have q123 : 2 < (t119.length : Int) := of_decide_eq_true (by first | (with_reducible assumption) | assumption)
                            obtain ⟨ad123, A123_0, c123_0, e123, hx123_0, hl123_0, hi123_0⟩ := at_L3 (Kd.N_reads' HO121.out).2.2 2 p123 q123
                            obtain rfl : ad122 = ad123 := (by injection e123)
                            obtain ⟨ce123, hce123, hMe123, hcc123⟩ := Kd.N_get HO121.out [] 2 p123 (by first | exact q123 | exact of_decide_eq_true (by first | (with_reducible assumption) | assumption) | (have e_ := (Kd.N_reads' HO121.out).1; omega))
                            obtain ⟨ua123_0, uc123_0, rfl, ul123_0, ge123_0⟩ := Kd.FK_slice_open hMe123
                            have hv123_0 := hcc123 0 _ rfl
                            rw [Nat.add_zero, show ((Kd.slice 3 (Kd.int .i64))).sz = 1 from rfl, Nat.mul_one] at hv123_0
                            replace hv123_0 := Option.some.inj (hv123_0.symm.trans hx123_0)
                            injection hv123_0 with hva_ hvn_ hvc_
                            rw [hva_] at ge123_0
                            rw [hvc_] at ul123_0
                            have HL123_0 := Aside0.mk (show Kd.V (Kd.int .i64) 3 _ w.heap.size _ _ (rd_L3 t119 2) from Kd.V_mk ul123_0 ge123_0)
                            clear hva_ hvn_ hvc_ ge123_0 ul123_0
                            clear hcc123 hce123
                            (try simp only [show (2 : Int).toNat = 2 from rfl, Nat.reduceMul, Nat.reduceEqDiff, Go.Addr.add, ↓reduceIte] at hx123_0)
                            have qi123 : (2 < t119.length) = True := eq_true (by omega)
                            (try rw [show ((2 : Int)).toNat = 2 from rfl] at hx123_0)
                            have HR123_0 := Aside0.mk hi123_0
                            have HC123_0 := Aside0.mk hl123_0
                            clear hi123_0 hl123_0
                            replace p123 := eq_true p123
                            replace q123 := eq_true q123
                            go_wp2_with (first | (go_at_call 59; (with_reducible refine (emendationref03_Same.calls k2 _ _ (rd_L3 t119 0) _ _ (rd_L3 t119 2) false _ ?side1 ?side2 ?side3 ?side4 A39.out).mono ?_); (case side1 => repeat (first | exact (by repeat (first | (with_reducible exact HR122_0.out) | (with_reducible refine Kd.C_alloc ?_ _) | (with_reducible refine Kd.C_drewN ?_ _) | (with_reducible refine Kd.C_drew ?_) | exact HR122_0.out)) | (with_reducible refine Kd.C_alloc ?_ _) | (with_reducible refine Kd.C_drewN ?_ _) | (with_reducible refine Kd.C_drew ?_))); (case side2 => exact HC122_0.out); (case side3 => repeat (first | exact (by repeat (first | (with_reducible exact HR123_0.out) | (with_reducible refine Kd.C_alloc ?_ _) | (with_reducible refine Kd.C_drewN ?_ _) | (with_reducible refine Kd.C_drew ?_) | exact HR123_0.out)) | (with_reducible refine Kd.C_alloc ?_ _) | (with_reducible refine Kd.C_drewN ?_ _) | (with_reducible refine Kd.C_drew ?_))); (case side4 => exact HC123_0.out); rintro e w' ⟨rfl, ⟨nd, rfl⟩⟩; (try first | exact ⟨rfl, _, World.drewN_drewN _ _ _⟩ | exact ⟨rfl, _, Eq.trans (World.drewN_drewN _ _ _) (congrArg (World.drewN _) (Nat.add_assoc _ _ _))⟩)))
                            repeat (go_quiet (first | (go_at_call 59; (with_reducible refine (emendationref03_Same.calls k2 _ _ (rd_L3 t119 0) _ _ (rd_L3 t119 2) false _ ?side1 ?side2 ?side3 ?side4 A39.out).mono ?_); (case side1 => repeat (first | exact (by repeat (first | (with_reducible exact HR122_0.out) | (with_reducible refine Kd.C_alloc ?_ _) | (with_reducible refine Kd.C_drewN ?_ _) | (with_reducible refine Kd.C_drew ?_) | exact HR122_0.out)) | (with_reducible refine Kd.C_alloc ?_ _) | (with_reducible refine Kd.C_drewN ?_ _) | (with_reducible refine Kd.C_drew ?_))); (case side2 => exact HC122_0.out); (case side3 => repeat (first | exact (by repeat (first | (with_reducible exact HR123_0.out) | (with_reducible refine Kd.C_alloc ?_ _) | (with_reducible refine Kd.C_drewN ?_ _) | (with_reducible refine Kd.C_drew ?_) | exact HR123_0.out)) | (with_reducible refine Kd.C_alloc ?_ _) | (with_reducible refine Kd.C_drewN ?_ _) | (with_reducible refine Kd.C_drew ?_))); (case side4 => exact HC123_0.out); rintro e w' ⟨rfl, ⟨nd, rfl⟩⟩; (try first | exact ⟨rfl, _, World.drewN_drewN _ _ _⟩ | exact ⟨rfl, _, Eq.trans (World.drewN_drewN _ _ _) (congrArg (World.drewN _) (Nat.add_assoc _ _ _))⟩))); try go_wp2_with (first | (go_at_call 59; (with_reducible refine (emendationref03_Same.calls k2 _ _ (rd_L3 t119 0) _ _ (rd_L3 t119 2) false _ ?side1 ?side2 ?side3 ?side4 A39.out).mono ?_); (case side1 => repeat (first | exact (by repeat (first | (with_reducible exact HR122_0.out) | (with_reducible refine Kd.C_alloc ?_ _) | (with_reducible refine Kd.C_drewN ?_ _) | (with_reducible refine Kd.C_drew ?_) | exact HR122_0.out)) | (with_reducible refine Kd.C_alloc ?_ _) | (with_reducible refine Kd.C_drewN ?_ _) | (with_reducible refine Kd.C_drew ?_))); (case side2 => exact HC122_0.out); (case side3 => repeat (first | exact (by repeat (first | (with_reducible exact HR123_0.out) | (with_reducible refine Kd.C_alloc ?_ _) | (with_reducible refine Kd.C_drewN ?_ _) | (with_reducible refine Kd.C_drew ?_) | exact HR123_0.out)) | (with_reducible refine Kd.C_alloc ?_ _) | (with_reducible refine Kd.C_drewN ?_ _) | (with_reducible refine Kd.C_drew ?_))); (case side4 => exact HC123_0.out); rintro e w' ⟨rfl, ⟨nd, rfl⟩⟩; (try first | exact ⟨rfl, _, World.drewN_drewN _ _ _⟩ | exact ⟨rfl, _, Eq.trans (World.drewN_drewN _ _ _) (congrArg (World.drewN _) (Nat.add_assoc _ _ _))⟩))))
                            go_meet
                            case rel => exact ⟨_, (true), (by first | rfl | (simp; done) | (simp [*]; done)), H', ⟨by have := HJ2.out; have := HK2.out; first | omega | exact Nat.le_refl _⟩, ⟨by (with_reducible repeat (first | apply Kd.N_alloc | apply Kd.N_drewN | apply Kd.N_drew)); exact Kd.N_mono HO121.out (fun _ hk => hk.1)⟩, ⟨by repeat (first | (with_reducible first | exact HB.out | apply below_alloc | apply pw_below_drewN | apply below_drew1) | exact HB.out)⟩⟩
                        · rw [if_neg c38] at H
                          exact absurd H (by simp)
                      · rw [if_neg c37] at H
                        exact absurd H (by simp)
                    · rw [if_neg c36] at H
                      have c36b0 : ((t119.length : Int) == 4) = false := beq_eq_false_iff_ne.mpr c36
                      have c36b1 : ((t119.length : Int) != 4) = true := bne_iff_ne.mpr c36
                      (first | rw [c36b0] | (simp only [i64_w, i32_w]; rw [c36b0]) | skip)
                      have H' := Aside0.mk H
                      clear H
                      obtain ⟨Ao46, co46, eo46⟩ := Kd.N_slice HO121.out
                      subst eo46
                      go_wp2
                      repeat (go_quiet (fail); try go_wp2)
                      go_meet
                      case rel => exact ⟨_, (true), (by first | rfl | (simp; done) | (simp [*]; done)), H', ⟨by have := HJ2.out; have := HK2.out; first | omega | exact Nat.le_refl _⟩, ⟨by (with_reducible repeat (first | apply Kd.N_alloc | apply Kd.N_drewN | apply Kd.N_drew)); exact Kd.N_mono HO121.out (fun _ hk => hk.1)⟩, ⟨by repeat (first | (with_reducible first | exact HB.out | apply below_alloc | apply pw_below_drewN | apply below_drew1) | exact HB.out)⟩⟩
                  case rest =>
                    clear HC31
                    try clear c1
                    try clear p1
                    try clear q1
                    try clear hx1
                    try clear qi1
                    try clear c2
                    try clear p2
                    try clear c3
                    try clear c4
                    try clear c5
                    try clear p6
                    try clear c7
                    try clear p11
                    try clear q11
                    try clear hx11
                    try clear c12
                    try clear p12
                    try clear q12
                    try clear hx12
                    try clear qi12
                    try clear c15
                    try clear c16
                    try clear c22
                    try clear c22b0
                    try clear c23
                    try clear c23b0
                    try clear c24
                    try clear c25
                    try clear c25b0
                    try clear c26
                    try clear c26b0
                    try clear c27
                    try clear c27b0
                    try clear c28
                    try clear c28b0
                    try clear c29
                    try clear c36
                    try clear c36b0
                    try clear c36b1
                    try clear c37
                    try clear c37b0
                    try clear c37b1
                    try clear c38
                    try clear c38b0
                    try clear c38b1
                    try clear c40
                    try clear c41
                    try clear c41b0
                    try clear c41b1
                    try clear c42
                    try clear c42b0
                    try clear c42b1
                    try clear hx114_0
                    try clear hx115_0
                    try clear hx122_0
                    try clear hx123_0
                    try clear hx125_0
                    try clear hx126_0
                    try clear p114
                    try clear p115
                    try clear p122
                    try clear p123
                    try clear p125
                    try clear p126
                    try clear p2
                    try clear q114
                    try clear q115
                    try clear q122
                    try clear q123
                    try clear q125
                    try clear q126
                    obtain ⟨kq, x86_30, rfl, HA, HJ30, HO_10, HB⟩ := hcut
                    cases kq with
                    | zero => exact absurd HA.out (by simp [emendationlaw03_TokenLists.j3])
                    | succ kj30 =>
                      have H := HA.out
                      clear HA
                      simp only [emendationlaw03_TokenLists.j3] at H
                      by_cases c47 : x86_30 = true
                      · subst c47
                        have H1 : (some false) = some r := by rw [if_pos rfl] at H; exact H
                        clear H
                        have H := H1
                        clear H1
                        obtain rfl := Option.some.inj H
                        go_wp2
                        repeat (go_quiet (fail); try go_wp2)
                        go_ret
                        exact ⟨by first | rfl | (simp [errW_none, errW_some] <;> rfl) | (simp [*, errW_none, errW_some] <;> rfl), by repeat (first | (with_reducible first | exact HB.out | apply below_alloc | apply pw_below_drewN | apply below_drew1) | exact HB.out)⟩
                      · replace c47 := Bool.eq_false_iff.mpr c47
                        subst c47
                        have H1 : (emendationlaw03_TokenLists.l2 kj30 x5_2 t119 (t119.length : Int) 0) = some r := by rw [if_neg (show ¬ (false = true) by decide)] at H; exact H
                        clear H
                        have H := H1
                        clear H1
                        have H' := Aside0.mk H
                        clear H
                        obtain ⟨Ao48, co48, eo48⟩ := Kd.N_slice HO_10.out
                        subst eo48
                        go_wp2
                        repeat (go_quiet (fail); try go_wp2)
                        go_loopg [89] kj30 (fun kq v89 w' => ∃ (x89_4 : Int), v89 = .int .i64 x89_4 ∧ Aside0 (emendationlaw03_TokenLists.l2 kq x5_2 t119 (t119.length : Int) x89_4 = some r) ∧ Aside0 (kq ≤ kj30) ∧ Aside0 (Kd.N (Kd.slice 3 (Kd.int .i64)) 29 w' w.heap.size (fun k_ => ((P0_ k_ ∨ P1_ k_) ∨ w.heap.size ≤ k_)) (.slice Ao48 t119.length co48) t119) ∧ Aside0 (Below w.heap.size w w'))
                        case atStart => exact ⟨(0), (by first | rfl | (simp; done) | (simp [*]; done)), H', ⟨Nat.le_refl _⟩, ⟨by (with_reducible repeat (first | apply Kd.N_alloc | apply Kd.N_drewN | apply Kd.N_drew)); exact HO_10.out⟩, ⟨by repeat (first | (with_reducible first | exact HB.out | apply below_alloc | apply pw_below_drewN | apply below_drew1) | exact HB.out)⟩⟩
                        case round =>
                          clear H'
                          try clear c1
                          try clear p1
                          try clear q1
                          try clear hx1
                          try clear qi1
                          try clear c2
                          try clear p2
                          try clear c3
                          try clear c4
                          try clear c5
                          try clear p6
                          try clear c7
                          try clear p11
                          try clear q11
                          try clear hx11
                          try clear c12
                          try clear p12
                          try clear q12
                          try clear hx12
                          try clear qi12
                          try clear c15
                          try clear c16
                          try clear c22
                          try clear c22b0
                          try clear c23
                          try clear c23b0
                          try clear c24
                          try clear c25
                          try clear c25b0
                          try clear c26
                          try clear c26b0
                          try clear c27
                          try clear c27b0
                          try clear c28
                          try clear c28b0
                          try clear c29
                          try clear c36
                          try clear c36b0
                          try clear c36b1
                          try clear c37
                          try clear c37b0
                          try clear c37b1
                          try clear c38
                          try clear c38b0
                          try clear c38b1
                          try clear c40
                          try clear c41
                          try clear c41b0
                          try clear c41b1
                          try clear c42
                          try clear c42b0
                          try clear c42b1
                          try clear c47
                          try clear hx114_0
                          try clear hx115_0
                          try clear hx122_0
                          try clear hx123_0
                          try clear hx125_0
                          try clear hx126_0
                          try clear p1
                          try clear p11
                          try clear p114
                          try clear p115
                          try clear p12
                          try clear p122
                          try clear p123
                          try clear p125
                          try clear p126
                          try clear p2
                          try clear p6
                          try clear q1
                          try clear q11
                          try clear q114
                          try clear q115
                          try clear q12
                          try clear q122
                          try clear q123
                          try clear q125
                          try clear q126
                          obtain ⟨x89_4, rfl, HA, HK4, HO_87, HB⟩ := hrel
                          cases gk with
                          | zero => exact absurd HA.out (by simp [emendationlaw03_TokenLists.l2])
                          | succ k4 =>
                            have H := HA.out
                            clear HA
                            simp only [emendationlaw03_TokenLists.l2] at H
                            by_cases c49 : x89_4 < (t119.length : Int)
                            · rw [if_pos c49] at H
                              have c49b0 : decide (x89_4 < (t119.length : Int)) = true := decide_eq_true c49
                              clear c49
                              by_cases c50 : 0 ≤ x89_4
                              · rw [if_pos c50] at H
                                have c50b0 : decide (0 ≤ x89_4) = true := decide_eq_true c50
                                clear c50
                                by_cases c51 : x89_4 < (t119.length : Int)
                                · rw [if_pos c51] at H
                                  have c51b0 : decide (x89_4 < (t119.length : Int)) = true := decide_eq_true c51
                                  clear c51
                                  have H' := Aside0.mk H
                                  clear H
                                  have p128 : 0 ≤ (x89_4 : Int) := of_decide_eq_true (by first | (with_reducible assumption) | assumption)
                                  have q128 : x89_4 < (t119.length : Int) := of_decide_eq_true (by first | (with_reducible assumption) | assumption)
                                  obtain ⟨ad128, A128_0, c128_0, e128, hx128_0, hl128_0, hi128_0⟩ := at_L3 (Kd.N_reads' HO_87.out).2.2 x89_4 p128 q128
                                  cases e128
                                  obtain ⟨ce128, hce128, hMe128, hcc128⟩ := Kd.N_get HO_87.out [] x89_4 p128 (by first | exact q128 | exact of_decide_eq_true (by first | (with_reducible assumption) | assumption) | (have e_ := (Kd.N_reads' HO_87.out).1; omega))
                                  obtain ⟨ua128_0, uc128_0, rfl, ul128_0, ge128_0⟩ := Kd.FK_slice_open hMe128
                                  have hv128_0 := hcc128 0 _ rfl
                                  rw [Nat.add_zero, show ((Kd.slice 3 (Kd.int .i64))).sz = 1 from rfl, Nat.mul_one] at hv128_0
                                  replace hv128_0 := Option.some.inj (hv128_0.symm.trans hx128_0)
                                  injection hv128_0 with hva_ hvn_ hvc_
                                  rw [hva_] at ge128_0
                                  rw [hvc_] at ul128_0
                                  have HL128_0 := Aside0.mk (show Kd.V (Kd.int .i64) 3 _ w.heap.size _ _ (rd_L3 t119 x89_4) from Kd.V_mk ul128_0 ge128_0)
                                  clear hva_ hvn_ hvc_ ge128_0 ul128_0
                                  clear hcc128 hce128
                                  have HR128_0 := Aside0.mk hi128_0
                                  have HC128_0 := Aside0.mk hl128_0
                                  clear hi128_0 hl128_0
                                  replace p128 := eq_true p128
                                  replace q128 := eq_true q128
                                  go_wp2
                                  repeat (go_quiet (fail); try go_wp2)
                                  go_loopg [95] k4 (fun kq v95 w' => ∃ (x95_5 : Int), v95 = .int .i64 x95_5 ∧ Aside0 (emendationlaw03_TokenLists.l3 kq x5_2 (rd_L3 t119 x89_4) t119 (t119.length : Int) x89_4 ((rd_L3 t119 x89_4).length : Int) x95_5 = some r) ∧ Aside0 (kq ≤ k4) ∧ Aside0 (Kd.N (Kd.slice 3 (Kd.int .i64)) 29 w' w.heap.size (fun k_ => ((P0_ k_ ∨ P1_ k_) ∨ w.heap.size ≤ k_)) (.slice (some ad128) t119.length co48) t119) ∧ Aside0 (Kd.C (Kd.int .i64) w' A128_0 (rd_L3 t119 x89_4).length (rd_L3 t119 x89_4)) ∧ Aside0 (Below w.heap.size w w'))
                                  case atStart => exact ⟨(0), (by first | rfl | (simp; done) | (simp [*]; done)), H', ⟨Nat.le_refl _⟩, ⟨by (with_reducible repeat (first | apply Kd.N_alloc | apply Kd.N_drewN | apply Kd.N_drew)); exact HO_87.out⟩, ⟨by repeat (first | (with_reducible exact HR128_0.out) | (with_reducible refine Kd.C_alloc ?_ _) | (with_reducible refine Kd.C_drewN ?_ _) | (with_reducible refine Kd.C_drew ?_) | exact HR128_0.out)⟩, ⟨by repeat (first | (with_reducible first | exact HB.out | apply below_alloc | apply pw_below_drewN | apply below_drew1) | exact HB.out)⟩⟩
                                  case round =>
                                    clear H'
                                    try clear c1
                                    try clear p1
                                    try clear q1
                                    try clear hx1
                                    try clear qi1
                                    try clear c2
                                    try clear p2
                                    try clear c3
                                    try clear c4
                                    try clear c5
                                    try clear p6
                                    try clear c7
                                    try clear p11
                                    try clear q11
                                    try clear hx11
                                    try clear c12
                                    try clear p12
                                    try clear q12
                                    try clear hx12
                                    try clear qi12
                                    try clear c15
                                    try clear c16
                                    try clear c22
                                    try clear c22b0
                                    try clear c23
                                    try clear c23b0
                                    try clear c24
                                    try clear c25
                                    try clear c25b0
                                    try clear c26
                                    try clear c26b0
                                    try clear c27
                                    try clear c27b0
                                    try clear c28
                                    try clear c28b0
                                    try clear c29
                                    try clear c36
                                    try clear c36b0
                                    try clear c36b1
                                    try clear c37
                                    try clear c37b0
                                    try clear c37b1
                                    try clear c38
                                    try clear c38b0
                                    try clear c38b1
                                    try clear c40
                                    try clear c41
                                    try clear c41b0
                                    try clear c41b1
                                    try clear c42
                                    try clear c42b0
                                    try clear c42b1
                                    try clear c47
                                    try clear c49
                                    try clear c49b0
                                    try clear c50
                                    try clear c50b0
                                    try clear c51
                                    try clear c51b0
                                    try clear hx114_0
                                    try clear hx115_0
                                    try clear hx122_0
                                    try clear hx123_0
                                    try clear hx125_0
                                    try clear hx126_0
                                    try clear hx128_0
                                    try clear p1
                                    try clear p11
                                    try clear p114
                                    try clear p115
                                    try clear p12
                                    try clear p122
                                    try clear p123
                                    try clear p125
                                    try clear p126
                                    try clear p128
                                    try clear p2
                                    try clear p6
                                    try clear q1
                                    try clear q11
                                    try clear q114
                                    try clear q115
                                    try clear q12
                                    try clear q122
                                    try clear q123
                                    try clear q125
                                    try clear q126
                                    try clear q128
                                    obtain ⟨x95_5, rfl, HA, HK5, HO_87, HR128_0, HB⟩ := hrel
                                    cases gk with
                                    | zero => exact absurd HA.out (by simp [emendationlaw03_TokenLists.l3])
                                    | succ k5 =>
                                      have H := HA.out
                                      clear HA
                                      simp only [emendationlaw03_TokenLists.l3] at H
                                      by_cases c52 : x95_5 < ((rd_L3 t119 x89_4).length : Int)
                                      · rw [if_pos c52] at H
                                        have c52b0 : decide (x95_5 < ((rd_L3 t119 x89_4).length : Int)) = true := decide_eq_true c52
                                        clear c52
                                        by_cases c53 : 0 ≤ x95_5
                                        · rw [if_pos c53] at H
                                          have c53b0 : decide (0 ≤ x95_5) = true := decide_eq_true c53
                                          clear c53
                                          by_cases c54 : x95_5 < ((rd_L3 t119 x89_4).length : Int)
                                          · rw [if_pos c54] at H
                                            have c54b0 : decide (x95_5 < ((rd_L3 t119 x89_4).length : Int)) = true := decide_eq_true c54
                                            clear c54
                                            by_cases c55 : (rd (rd_L3 t119 x89_4) x95_5) < 0
                                            · rw [if_pos c55] at H
                                              have c55b0 : decide ((rd (rd_L3 t119 x89_4) x95_5) < 0) = true := decide_eq_true c55
                                              clear c55
                                              obtain rfl := Option.some.inj H
                                              have p129 : 0 ≤ (x95_5 : Int) := of_decide_eq_true (by first | (with_reducible assumption) | assumption)
                                              have q129 : x95_5 < ((rd_L3 t119 x89_4).length : Int) := of_decide_eq_true (by first | (with_reducible assumption) | assumption)
                                              obtain ⟨ad129, e129, hx129_0⟩ := Kd.at_int HR128_0.out x95_5 p129 q129
                                              cases e129
                                              try replace hx129_0 := (HB.out.cell (World.block_lt_of_cell? w _ hx129_0)).trans hx129_0
                                              replace p129 := eq_true p129
                                              replace q129 := eq_true q129
                                              go_wp2
                                              repeat (go_quiet (fail); try go_wp2)
                                              go_ret
                                              exact ⟨by first | rfl | (simp [errW_none, errW_some] <;> rfl) | (simp [*, errW_none, errW_some] <;> rfl), by repeat (first | (with_reducible first | exact HB.out | apply below_alloc | apply pw_below_drewN | apply below_drew1) | exact HB.out)⟩
                                            · rw [if_neg c55] at H
                                              have c55b0 : decide ((rd (rd_L3 t119 x89_4) x95_5) < 0) = false := decide_eq_false c55
                                              clear c55
                                              by_cases c56 : (rd (rd_L3 t119 x89_4) x95_5) ≥ x5_2
                                              · rw [if_pos c56] at H
                                                have c56b0 : decide (x5_2 ≤ (rd (rd_L3 t119 x89_4) x95_5)) = true := decide_eq_true c56
                                                clear c56
                                                obtain rfl := Option.some.inj H
                                                have p129 : 0 ≤ (x95_5 : Int) := of_decide_eq_true (by first | (with_reducible assumption) | assumption)
                                                have q129 : x95_5 < ((rd_L3 t119 x89_4).length : Int) := of_decide_eq_true (by first | (with_reducible assumption) | assumption)
                                                obtain ⟨ad129, e129, hx129_0⟩ := Kd.at_int HR128_0.out x95_5 p129 q129
                                                cases e129
                                                try replace hx129_0 := (HB.out.cell (World.block_lt_of_cell? w _ hx129_0)).trans hx129_0
                                                replace p129 := eq_true p129
                                                replace q129 := eq_true q129
                                                have p130 : 0 ≤ (x95_5 : Int) := of_decide_eq_true (by first | (with_reducible assumption) | assumption)
                                                have q130 : x95_5 < ((rd_L3 t119 x89_4).length : Int) := of_decide_eq_true (by first | (with_reducible assumption) | assumption)
                                                obtain ⟨ad130, e130, hx130_0⟩ := Kd.at_int HR128_0.out x95_5 p130 q130
                                                obtain rfl : ad129 = ad130 := (by injection e130)
                                                try replace hx130_0 := (HB.out.cell (World.block_lt_of_cell? w _ hx130_0)).trans hx130_0
                                                replace p130 := eq_true p130
                                                replace q130 := eq_true q130
                                                go_wp2
                                                repeat (go_quiet (fail); try go_wp2)
                                                go_ret
                                                exact ⟨by first | rfl | (simp [errW_none, errW_some] <;> rfl) | (simp [*, errW_none, errW_some] <;> rfl), by repeat (first | (with_reducible first | exact HB.out | apply below_alloc | apply pw_below_drewN | apply below_drew1) | exact HB.out)⟩
                                              · rw [if_neg c56] at H
                                                have c56b0 : decide (x5_2 ≤ (rd (rd_L3 t119 x89_4) x95_5)) = false := decide_eq_false c56
                                                clear c56
                                                have H' := Aside0.mk H
                                                clear H
                                                have p129 : 0 ≤ (x95_5 : Int) := of_decide_eq_true (by first | (with_reducible assumption) | assumption)
                                                have q129 : x95_5 < ((rd_L3 t119 x89_4).length : Int) := of_decide_eq_true (by first | (with_reducible assumption) | assumption)
                                                obtain ⟨ad129, e129, hx129_0⟩ := Kd.at_int HR128_0.out x95_5 p129 q129
                                                cases e129
                                                try replace hx129_0 := (HB.out.cell (World.block_lt_of_cell? w _ hx129_0)).trans hx129_0
                                                replace p129 := eq_true p129
                                                replace q129 := eq_true q129
                                                have p130 : 0 ≤ (x95_5 : Int) := of_decide_eq_true (by first | (with_reducible assumption) | assumption)
                                                have q130 : x95_5 < ((rd_L3 t119 x89_4).length : Int) := of_decide_eq_true (by first | (with_reducible assumption) | assumption)
                                                obtain ⟨ad130, e130, hx130_0⟩ := Kd.at_int HR128_0.out x95_5 p130 q130
                                                obtain rfl : ad129 = ad130 := (by injection e130)
                                                try replace hx130_0 := (HB.out.cell (World.block_lt_of_cell? w _ hx130_0)).trans hx130_0
                                                replace p130 := eq_true p130
                                                replace q130 := eq_true q130
                                                go_wp2
                                                repeat (go_quiet (fail); try go_wp2)
                                                go_roundg k5
                                                case measure => have := HJ2.out; have := HK2.out; have := HJ30.out; have := HK4.out; have := HK5.out; omega
                                                case rel => exact ⟨(wrap64 (x95_5 + 1)), (by first | rfl | (simp; done) | (simp [*]; done)), H', ⟨by have := HJ2.out; have := HK2.out; have := HJ30.out; have := HK4.out; have := HK5.out; omega⟩, ⟨by (with_reducible repeat (first | apply Kd.N_alloc | apply Kd.N_drewN | apply Kd.N_drew)); exact HO_87.out⟩, ⟨by repeat (first | (with_reducible exact HR128_0.out) | (with_reducible refine Kd.C_alloc ?_ _) | (with_reducible refine Kd.C_drewN ?_ _) | (with_reducible refine Kd.C_drew ?_) | exact HR128_0.out)⟩, ⟨by repeat (first | (with_reducible first | exact HB.out | apply below_alloc | apply pw_below_drewN | apply below_drew1) | exact HB.out)⟩⟩
                                          · rw [if_neg c54] at H
                                            exact absurd H (by simp)
                                        · rw [if_neg c53] at H
                                          exact absurd H (by simp)
                                      · rw [if_neg c52] at H
                                        have c52b0 : decide (x95_5 < ((rd_L3 t119 x89_4).length : Int)) = false := decide_eq_false c52
                                        clear c52
                                        have H' := Aside0.mk H
                                        clear H
                                        go_wp2
                                        repeat (go_quiet (fail); try go_wp2)
                                        go_roundg k5
                                        case measure => have := HJ2.out; have := HK2.out; have := HJ30.out; have := HK4.out; have := HK5.out; omega
                                        case rel => exact ⟨(wrap64 (x89_4 + 1)), (by first | rfl | (simp; done) | (simp [*]; done)), H', ⟨by have := HJ2.out; have := HK2.out; have := HJ30.out; have := HK4.out; have := HK5.out; omega⟩, ⟨by (with_reducible repeat (first | apply Kd.N_alloc | apply Kd.N_drewN | apply Kd.N_drew)); exact HO_87.out⟩, ⟨by repeat (first | (with_reducible first | exact HB.out | apply below_alloc | apply pw_below_drewN | apply below_drew1) | exact HB.out)⟩⟩
                                · rw [if_neg c51] at H
                                  exact absurd H (by simp)
                              · rw [if_neg c50] at H
                                exact absurd H (by simp)
                            · rw [if_neg c49] at H
                              have c49b0 : decide (x89_4 < (t119.length : Int)) = false := decide_eq_false c49
                              clear c49
                              obtain rfl := Option.some.inj H
                              go_wp2
                              repeat (go_quiet (fail); try go_wp2)
                              go_ret
                              exact ⟨by first | rfl | (simp [errW_none, errW_some] <;> rfl) | (simp [*, errW_none, errW_some] <;> rfl), by repeat (first | (with_reducible first | exact HB.out | apply below_alloc | apply pw_below_drewN | apply below_drew1) | exact HB.out)⟩
          · rw [if_neg c16] at H
            exact absurd H (by simp)
        · rw [if_neg c15] at H
          exact absurd H (by simp)

end Go.Proofs.Ytlkgdfeeepiidaa.All
