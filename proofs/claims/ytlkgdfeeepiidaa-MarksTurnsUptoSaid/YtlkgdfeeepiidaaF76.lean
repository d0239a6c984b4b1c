-- Made by a program of this session (wip/mk.py) over the kit's printing program; Lean checks it.
import Derived.Test.YtlkgdfeeepiidaaF0
namespace Go.Proofs.Ytlkgdfeeepiidaa.All
open Go.RowKit Go.Proofs.YtlkgdfeeepiidaaW.PrintWords Go.Proofs.YtlkgdfeeepiidaaW.PrintLast Go.Proofs.YtlkgdfeeepiidaaW.PrintMore
attribute [local go_sem] max2_int min2_int max_two min_two max_three min_three max_four min_four   -- for this text's walks alone
set_option linter.unusedVariables false
set_option linter.unusedSimpArgs false

/-- A state of type 104 at block g of W; what its slices lead to came in by w0. -/
def IsS104 (w0 W : World) (g : Nat) (f0 : List Int) (f1 : List Int) (f2 : List Int) (f3 : List Int) (f4 : List Int) (f5 : Int) (f6 : Int) (f7 : Int) : Prop := ∃ A0 c0, ∃ A1 c1, ∃ A2 c2, ∃ A3 c3, ∃ A4 c4, W.heap[g]? = some (.cells #[.slice A0 f0.length c0, .slice A1 f1.length c1, .slice A2 f2.length c2, .slice A3 f3.length c3, .slice A4 f4.length c4, .int .i64 f5, .int .i64 f6, .int .i64 f7] 104 (0, 0)) ∧ (w0.heap.size ≤ g ∧ f0.length ≤ c0 ∧ f1.length ≤ c1 ∧ f2.length ≤ c2) ∧ Kd.C (Kd.int .i64) w0 A0 f0.length f0 ∧ Kd.C (Kd.int .i64) w0 A1 f1.length f1 ∧ Kd.C (Kd.int .i64) w0 A2 f2.length f2 ∧ Kd.C (Kd.int .i64) w0 A3 f3.length f3 ∧ Kd.C (Kd.int .i64) w0 A4 f4.length f4
theorem IsS104.grown {w0 W : World} {g : Nat} {f0 : List Int} {f1 : List Int} {f2 : List Int} {f3 : List Int} {f4 : List Int} {f5 : Int} {f6 : Int} {f7 : Int} {W1 : World} {row : Option Nat} (h : IsS104 w0 W g f0 f1 f2 f3 f4 f5 f6 f7) (hw : W.grownBy W1 row) (hne : some g ≠ row) : IsS104 w0 W1 g f0 f1 f2 f3 f4 f5 f6 f7 := by
  obtain ⟨A0, c0, A1, c1, A2, c2, A3, c3, A4, c4, hb, hg, hr0, hr1, hr2, hr3, hr4⟩ := h
  exact ⟨A0, c0, A1, c1, A2, c2, A3, c3, A4, c4, blk_grown hb hw hne, hg, hr0, hr1, hr2, hr3, hr4⟩
theorem IsS104.kept {w0 W : World} {g : Nat} {f0 : List Int} {f1 : List Int} {f2 : List Int} {f3 : List Int} {f4 : List Int} {f5 : Int} {f6 : Int} {f7 : Int} {W1 : World} {S : Nat → Prop} (h : IsS104 w0 W g f0 f1 f2 f3 f4 f5 f6 f7) (hk : Kept W W1 S) (hne : ¬ S g) : IsS104 w0 W1 g f0 f1 f2 f3 f4 f5 f6 f7 := by
  obtain ⟨A0, c0, A1, c1, A2, c2, A3, c3, A4, c4, hb, hg, hr0, hr1, hr2, hr3, hr4⟩ := h
  exact ⟨A0, c0, A1, c1, A2, c2, A3, c3, A4, c4, blk_kept hb hk hne, hg, hr0, hr1, hr2, hr3, hr4⟩
theorem IsS104.below {w0 W : World} {g : Nat} {f0 : List Int} {f1 : List Int} {f2 : List Int} {f3 : List Int} {f4 : List Int} {f5 : Int} {f6 : Int} {f7 : Int} {W1 : World} (h : IsS104 w0 W g f0 f1 f2 f3 f4 f5 f6 f7) (hw : Below W.heap.size W W1) : IsS104 w0 W1 g f0 f1 f2 f3 f4 f5 f6 f7 := h.grown (grown_of_below hw none) (by simp)
theorem IsS104.alloc {w0 W : World} {g : Nat} {f0 : List Int} {f1 : List Int} {f2 : List Int} {f3 : List Int} {f4 : List Int} {f5 : Int} {f6 : Int} {f7 : Int} (h : IsS104 w0 W g f0 f1 f2 f3 f4 f5 f6 f7) (o : Obj) : IsS104 w0 (W.alloc o) g f0 f1 f2 f3 f4 f5 f6 f7 := h.below (below_alloc (Below.refl _ _) o)
theorem IsS104.drewN {w0 W : World} {g : Nat} {f0 : List Int} {f1 : List Int} {f2 : List Int} {f3 : List Int} {f4 : List Int} {f5 : Int} {f6 : Int} {f7 : Int} (h : IsS104 w0 W g f0 f1 f2 f3 f4 f5 f6 f7) (m : Nat) : IsS104 w0 (W.drewN m) g f0 f1 f2 f3 f4 f5 f6 f7 := h
theorem IsS104.drew {w0 W : World} {g : Nat} {f0 : List Int} {f1 : List Int} {f2 : List Int} {f3 : List Int} {f4 : List Int} {f5 : Int} {f6 : Int} {f7 : Int} (h : IsS104 w0 W g f0 f1 f2 f3 f4 f5 f6 f7) : IsS104 w0 W.drew g f0 f1 f2 f3 f4 f5 f6 f7 := h
theorem IsS104.at_ {w0 W : World} {g : Nat} {f0 : List Int} {f1 : List Int} {f2 : List Int} {f3 : List Int} {f4 : List Int} {f5 : Int} {f6 : Int} {f7 : Int} {w' : World} {m : Nat} (hq : W.drewN m = w') (h : IsS104 w0 W g f0 f1 f2 f3 f4 f5 f6 f7) : IsS104 w0 w' g f0 f1 f2 f3 f4 f5 f6 f7 := by subst hq; exact IsS104.drewN h m
theorem IsS104.apart {w0 W : World} {g : Nat} {f0 : List Int} {f1 : List Int} {f2 : List Int} {f3 : List Int} {f4 : List Int} {f5 : Int} {f6 : Int} {f7 : Int} {α : Type} {d : Kd α} {e : Nat} {base : Nat} {ok : Nat → Prop} {v : Value} {xs : List α} (h : IsS104 w0 W g f0 f1 f2 f3 f4 f5 f6 f7) (ho : d.R e W base ok v xs) (ht : ∀ q, q ∈ e :: d.E → q ≠ 104) : d.R e W base (fun k => ok k ∧ k ≠ g) v xs := by
  obtain ⟨A0, c0, A1, c1, A2, c2, A3, c3, A4, c4, hb, hg, hr0, hr1, hr2, hr3, hr4⟩ := h
  exact Kd.R_types ho hb ht
theorem IsS104.own_ne {w0 W : World} {g : Nat} {f0 : List Int} {f1 : List Int} {f2 : List Int} {f3 : List Int} {f4 : List Int} {f5 : Int} {f6 : Int} {f7 : Int} {α : Type} {d : Kd α} {e : Nat} {base : Nat} {ok : Nat → Prop} {v : Value} {xs : List α} (h : IsS104 w0 W g f0 f1 f2 f3 f4 f5 f6 f7) (ho : d.R e W base ok v xs) (ht : e ≠ 104) : some g ≠ v.ownBlock := by
  obtain ⟨A0, c0, A1, c1, A2, c2, A3, c3, A4, c4, hb, hg, hr0, hr1, hr2, hr3, hr4⟩ := h
  exact Kd.R_ne ho hb ht
theorem IsS104.lt {w0 W : World} {g : Nat} {f0 : List Int} {f1 : List Int} {f2 : List Int} {f3 : List Int} {f4 : List Int} {f5 : Int} {f6 : Int} {f7 : Int} (h : IsS104 w0 W g f0 f1 f2 f3 f4 f5 f6 f7) : g < W.heap.size := by
  obtain ⟨A0, c0, A1, c1, A2, c2, A3, c3, A4, c4, hb, hg, hr0, hr1, hr2, hr3, hr4⟩ := h
  exact blk_lt hb
theorem IsS104.ge {w0 W : World} {g : Nat} {f0 : List Int} {f1 : List Int} {f2 : List Int} {f3 : List Int} {f4 : List Int} {f5 : Int} {f6 : Int} {f7 : Int} (h : IsS104 w0 W g f0 f1 f2 f3 f4 f5 f6 f7) : w0.heap.size ≤ g := by
  obtain ⟨A0, c0, A1, c1, A2, c2, A3, c3, A4, c4, hb, hg, hr0, hr1, hr2, hr3, hr4⟩ := h
  exact hg.1
theorem IsS104.ne_blk {w0 W : World} {g : Nat} {f0 : List Int} {f1 : List Int} {f2 : List Int} {f3 : List Int} {f4 : List Int} {f5 : Int} {f6 : Int} {f7 : Int} {a : Nat} {cs : Array Value} {t : TypeId} {fr : Nat × Nat} (h : IsS104 w0 W g f0 f1 f2 f3 f4 f5 f6 f7) (hb2 : W.heap[a]? = some (.cells cs t fr)) (ht : t ≠ 104) : g ≠ a := by
  obtain ⟨A0, c0, A1, c1, A2, c2, A3, c3, A4, c4, hb, hg, hr0, hr1, hr2, hr3, hr4⟩ := h
  rintro rfl
  rw [hb] at hb2
  injection hb2 with hb2
  injection hb2 with _ ht2
  exact ht ht2.symm
theorem IsS104.far {w0 W : World} {g : Nat} {f0 : List Int} {f1 : List Int} {f2 : List Int} {f3 : List Int} {f4 : List Int} {f5 : Int} {f6 : Int} {f7 : Int} {p : Addr} (h : IsS104 w0 W g f0 f1 f2 f3 f4 f5 f6 f7) (hne : g ≠ p.block) (u : Value) : IsS104 w0 (W.setCell p u) g f0 f1 f2 f3 f4 f5 f6 f7 := by
  obtain ⟨A0, c0, A1, c1, A2, c2, A3, c3, A4, c4, hb, hg, hr0, hr1, hr2, hr3, hr4⟩ := h
  exact ⟨A0, c0, A1, c1, A2, c2, A3, c3, A4, c4, blk_far hb hne u, hg, hr0, hr1, hr2, hr3, hr4⟩
theorem cellS104_0 {W : World} {g : Nat} {A0 : Option Addr} {c0 : Nat} {A1 : Option Addr} {c1 : Nat} {A2 : Option Addr} {c2 : Nat} {A3 : Option Addr} {c3 : Nat} {A4 : Option Addr} {c4 : Nat} {f0 : List Int} {f1 : List Int} {f2 : List Int} {f3 : List Int} {f4 : List Int} {f5 : Int} {f6 : Int} {f7 : Int} (h : W.heap[g]? = some (.cells #[.slice A0 f0.length c0, .slice A1 f1.length c1, .slice A2 f2.length c2, .slice A3 f3.length c3, .slice A4 f4.length c4, .int .i64 f5, .int .i64 f6, .int .i64 f7] 104 (0, 0))) : W.cell? ⟨g, 0, none⟩ = some (.slice A0 f0.length c0) := (blk_cell h 0).trans rfl
theorem cellS104_1 {W : World} {g : Nat} {A0 : Option Addr} {c0 : Nat} {A1 : Option Addr} {c1 : Nat} {A2 : Option Addr} {c2 : Nat} {A3 : Option Addr} {c3 : Nat} {A4 : Option Addr} {c4 : Nat} {f0 : List Int} {f1 : List Int} {f2 : List Int} {f3 : List Int} {f4 : List Int} {f5 : Int} {f6 : Int} {f7 : Int} (h : W.heap[g]? = some (.cells #[.slice A0 f0.length c0, .slice A1 f1.length c1, .slice A2 f2.length c2, .slice A3 f3.length c3, .slice A4 f4.length c4, .int .i64 f5, .int .i64 f6, .int .i64 f7] 104 (0, 0))) : W.cell? ⟨g, 1, none⟩ = some (.slice A1 f1.length c1) := (blk_cell h 1).trans rfl
theorem cellS104_2 {W : World} {g : Nat} {A0 : Option Addr} {c0 : Nat} {A1 : Option Addr} {c1 : Nat} {A2 : Option Addr} {c2 : Nat} {A3 : Option Addr} {c3 : Nat} {A4 : Option Addr} {c4 : Nat} {f0 : List Int} {f1 : List Int} {f2 : List Int} {f3 : List Int} {f4 : List Int} {f5 : Int} {f6 : Int} {f7 : Int} (h : W.heap[g]? = some (.cells #[.slice A0 f0.length c0, .slice A1 f1.length c1, .slice A2 f2.length c2, .slice A3 f3.length c3, .slice A4 f4.length c4, .int .i64 f5, .int .i64 f6, .int .i64 f7] 104 (0, 0))) : W.cell? ⟨g, 2, none⟩ = some (.slice A2 f2.length c2) := (blk_cell h 2).trans rfl
theorem cellS104_3 {W : World} {g : Nat} {A0 : Option Addr} {c0 : Nat} {A1 : Option Addr} {c1 : Nat} {A2 : Option Addr} {c2 : Nat} {A3 : Option Addr} {c3 : Nat} {A4 : Option Addr} {c4 : Nat} {f0 : List Int} {f1 : List Int} {f2 : List Int} {f3 : List Int} {f4 : List Int} {f5 : Int} {f6 : Int} {f7 : Int} (h : W.heap[g]? = some (.cells #[.slice A0 f0.length c0, .slice A1 f1.length c1, .slice A2 f2.length c2, .slice A3 f3.length c3, .slice A4 f4.length c4, .int .i64 f5, .int .i64 f6, .int .i64 f7] 104 (0, 0))) : W.cell? ⟨g, 3, none⟩ = some (.slice A3 f3.length c3) := (blk_cell h 3).trans rfl
theorem cellS104_4 {W : World} {g : Nat} {A0 : Option Addr} {c0 : Nat} {A1 : Option Addr} {c1 : Nat} {A2 : Option Addr} {c2 : Nat} {A3 : Option Addr} {c3 : Nat} {A4 : Option Addr} {c4 : Nat} {f0 : List Int} {f1 : List Int} {f2 : List Int} {f3 : List Int} {f4 : List Int} {f5 : Int} {f6 : Int} {f7 : Int} (h : W.heap[g]? = some (.cells #[.slice A0 f0.length c0, .slice A1 f1.length c1, .slice A2 f2.length c2, .slice A3 f3.length c3, .slice A4 f4.length c4, .int .i64 f5, .int .i64 f6, .int .i64 f7] 104 (0, 0))) : W.cell? ⟨g, 4, none⟩ = some (.slice A4 f4.length c4) := (blk_cell h 4).trans rfl
theorem cellS104_5 {W : World} {g : Nat} {A0 : Option Addr} {c0 : Nat} {A1 : Option Addr} {c1 : Nat} {A2 : Option Addr} {c2 : Nat} {A3 : Option Addr} {c3 : Nat} {A4 : Option Addr} {c4 : Nat} {f0 : List Int} {f1 : List Int} {f2 : List Int} {f3 : List Int} {f4 : List Int} {f5 : Int} {f6 : Int} {f7 : Int} (h : W.heap[g]? = some (.cells #[.slice A0 f0.length c0, .slice A1 f1.length c1, .slice A2 f2.length c2, .slice A3 f3.length c3, .slice A4 f4.length c4, .int .i64 f5, .int .i64 f6, .int .i64 f7] 104 (0, 0))) : W.cell? ⟨g, 5, none⟩ = some (.int .i64 f5) := (blk_cell h 5).trans rfl
theorem IsS104.set_5 {w0 W : World} {g : Nat} {f0 : List Int} {f1 : List Int} {f2 : List Int} {f3 : List Int} {f4 : List Int} {f5 : Int} {f6 : Int} {f7 : Int} (h : IsS104 w0 W g f0 f1 f2 f3 f4 f5 f6 f7) (x : Int) : IsS104 w0 (W.setCell ⟨g, 5, none⟩ (.int .i64 x)) g f0 f1 f2 f3 f4 x f6 f7 := by
  obtain ⟨A0, c0, A1, c1, A2, c2, A3, c3, A4, c4, hb, hg, hr0, hr1, hr2, hr3, hr4⟩ := h
  exact ⟨A0, c0, A1, c1, A2, c2, A3, c3, A4, c4, by simpa using blk_set hb 5 (.int .i64 x), hg, hr0, hr1, hr2, hr3, hr4⟩
theorem cellS104_6 {W : World} {g : Nat} {A0 : Option Addr} {c0 : Nat} {A1 : Option Addr} {c1 : Nat} {A2 : Option Addr} {c2 : Nat} {A3 : Option Addr} {c3 : Nat} {A4 : Option Addr} {c4 : Nat} {f0 : List Int} {f1 : List Int} {f2 : List Int} {f3 : List Int} {f4 : List Int} {f5 : Int} {f6 : Int} {f7 : Int} (h : W.heap[g]? = some (.cells #[.slice A0 f0.length c0, .slice A1 f1.length c1, .slice A2 f2.length c2, .slice A3 f3.length c3, .slice A4 f4.length c4, .int .i64 f5, .int .i64 f6, .int .i64 f7] 104 (0, 0))) : W.cell? ⟨g, 6, none⟩ = some (.int .i64 f6) := (blk_cell h 6).trans rfl
theorem IsS104.set_6 {w0 W : World} {g : Nat} {f0 : List Int} {f1 : List Int} {f2 : List Int} {f3 : List Int} {f4 : List Int} {f5 : Int} {f6 : Int} {f7 : Int} (h : IsS104 w0 W g f0 f1 f2 f3 f4 f5 f6 f7) (x : Int) : IsS104 w0 (W.setCell ⟨g, 6, none⟩ (.int .i64 x)) g f0 f1 f2 f3 f4 f5 x f7 := by
  obtain ⟨A0, c0, A1, c1, A2, c2, A3, c3, A4, c4, hb, hg, hr0, hr1, hr2, hr3, hr4⟩ := h
  exact ⟨A0, c0, A1, c1, A2, c2, A3, c3, A4, c4, by simpa using blk_set hb 6 (.int .i64 x), hg, hr0, hr1, hr2, hr3, hr4⟩
theorem cellS104_7 {W : World} {g : Nat} {A0 : Option Addr} {c0 : Nat} {A1 : Option Addr} {c1 : Nat} {A2 : Option Addr} {c2 : Nat} {A3 : Option Addr} {c3 : Nat} {A4 : Option Addr} {c4 : Nat} {f0 : List Int} {f1 : List Int} {f2 : List Int} {f3 : List Int} {f4 : List Int} {f5 : Int} {f6 : Int} {f7 : Int} (h : W.heap[g]? = some (.cells #[.slice A0 f0.length c0, .slice A1 f1.length c1, .slice A2 f2.length c2, .slice A3 f3.length c3, .slice A4 f4.length c4, .int .i64 f5, .int .i64 f6, .int .i64 f7] 104 (0, 0))) : W.cell? ⟨g, 7, none⟩ = some (.int .i64 f7) := (blk_cell h 7).trans rfl
theorem IsS104.set_7 {w0 W : World} {g : Nat} {f0 : List Int} {f1 : List Int} {f2 : List Int} {f3 : List Int} {f4 : List Int} {f5 : Int} {f6 : Int} {f7 : Int} (h : IsS104 w0 W g f0 f1 f2 f3 f4 f5 f6 f7) (x : Int) : IsS104 w0 (W.setCell ⟨g, 7, none⟩ (.int .i64 x)) g f0 f1 f2 f3 f4 f5 f6 x := by
  obtain ⟨A0, c0, A1, c1, A2, c2, A3, c3, A4, c4, hb, hg, hr0, hr1, hr2, hr3, hr4⟩ := h
  exact ⟨A0, c0, A1, c1, A2, c2, A3, c3, A4, c4, by simpa using blk_set hb 7 (.int .i64 x), hg, hr0, hr1, hr2, hr3, hr4⟩
theorem IsS104.new (w0 W : World) (A0 : Option Addr) (c0 : Nat) (A1 : Option Addr) (c1 : Nat) (A2 : Option Addr) (c2 : Nat) (A3 : Option Addr) (c3 : Nat) (A4 : Option Addr) (c4 : Nat) (f0 : List Int) (f1 : List Int) (f2 : List Int) (f3 : List Int) (f4 : List Int) (f5 : Int) (f6 : Int) (f7 : Int) (hB : Below w0.heap.size w0 W) (hc : f0.length ≤ c0 ∧ f1.length ≤ c1 ∧ f2.length ≤ c2) (hr0 : Kd.C (Kd.int .i64) w0 A0 f0.length f0) (hr1 : Kd.C (Kd.int .i64) w0 A1 f1.length f1) (hr2 : Kd.C (Kd.int .i64) w0 A2 f2.length f2) (hr3 : Kd.C (Kd.int .i64) w0 A3 f3.length f3) (hr4 : Kd.C (Kd.int .i64) w0 A4 f4.length f4) : IsS104 w0 (W.alloc (.cells #[.slice A0 f0.length c0, .slice A1 f1.length c1, .slice A2 f2.length c2, .slice A3 f3.length c3, .slice A4 f4.length c4, .int .i64 f5, .int .i64 f6, .int .i64 f7] 104)) W.heap.size f0 f1 f2 f3 f4 f5 f6 f7 := ⟨A0, c0, A1, c1, A2, c2, A3, c3, A4, c4, by simpa using heap_alloc_new W _, ⟨hB.size, hc⟩, hr0, hr1, hr2, hr3, hr4⟩

/-! ### weave_weaver_run: function 76 -/
def weave_weaver_run.l0 : Nat → Int → List Int → List Int → List Int → List Int → List Int → Int → Int → Int → Option (Int × Int × Int × Int)
  | 0, _, _, _, _, _, _, _, _, _ => none
  | k + 1, x3, x1000, x1001, x1002, x1003, x1004, x1005, x1006, x1007 => if (wrap64 (x1005 + x3)) < (x1000.length : Int) then (if 0 ≤ (wrap64 (x1005 + x3)) then (if (wrap64 (x1005 + x3)) < (x1003.length : Int) then (if (rd x1003 (wrap64 (x1005 + x3))) = (wrap64 (x1006 + x3)) then (if (wrap64 (x1005 + x3)) < (x1004.length : Int) then (if (rd x1004 (wrap64 (x1005 + x3))) = (wrap64 (x1007 + x3)) then (weave_weaver_run.l0 k (wrap64 (x3 + 1)) x1000 x1001 x1002 x1003 x1004 x1005 x1006 x1007) else (some (x3, x1005, x1006, x1007))) else (none)) else (some (x3, x1005, x1006, x1007))) else (none)) else (none)) else (some (x3, x1005, x1006, x1007))
def weave_weaver_run.f (k : Nat) (s0_0 : List Int) (s0_1 : List Int) (s0_2 : List Int) (s0_3 : List Int) (s0_4 : List Int) (s0_5 : Int) (s0_6 : Int) (s0_7 : Int) : Option (Int × Int × Int × Int) := weave_weaver_run.l0 k 0 s0_0 s0_1 s0_2 s0_3 s0_4 s0_5 s0_6 s0_7
theorem weave_weaver_run.mono_l : ∀ k, (∀ y0 y1 y2 y3 y4 y5 y6 y7 y8, LeO (weave_weaver_run.l0 k y0 y1 y2 y3 y4 y5 y6 y7 y8) (weave_weaver_run.l0 (k + 1) y0 y1 y2 y3 y4 y5 y6 y7 y8))
  | 0 => fun _ _ _ _ _ _ _ _ _ r h => by simp [weave_weaver_run.l0] at h
  | k + 1 => by
    have ih0 := weave_weaver_run.mono_l k
    · intro y0 y1 y2 y3 y4 y5 y6 y7 y8
      unfold weave_weaver_run.l0
      repeat' first
      | (with_reducible exact ih0 _ _ _ _ _ _ _ _ _)
      | (with_reducible exact LeO.refl _)
      | (with_reducible exact LeO.none _)
      | (with_reducible refine LeO.ite ?_ ?_)
      | (with_reducible refine LeO.bind ?_ (fun _ => ?_))
      | exact ih0 _ _ _ _ _ _ _ _ _
      | exact LeO.none _
      | refine LeO.ite ?_ ?_
      | refine LeO.bind ?_ (fun _ => ?_)
theorem weave_weaver_run.mono : ∀ a0 a1 a2 a3 a4 a5 a6 a7 k, LeO (weave_weaver_run.f k a0 a1 a2 a3 a4 a5 a6 a7) (weave_weaver_run.f (k + 1) a0 a1 a2 a3 a4 a5 a6 a7) := by
  intro a0 a1 a2 a3 a4 a5 a6 a7 k
  have ih0 := weave_weaver_run.mono_l k
  unfold weave_weaver_run.f
  repeat' first
      | (with_reducible exact ih0 _ _ _ _ _ _ _ _ _)
      | (with_reducible exact LeO.refl _)
      | (with_reducible exact LeO.none _)
      | (with_reducible refine LeO.ite ?_ ?_)
      | (with_reducible refine LeO.bind ?_ (fun _ => ?_))
      | exact ih0 _ _ _ _ _ _ _ _ _
      | exact LeO.none _
      | refine LeO.ite ?_ ?_
      | refine LeO.bind ?_ (fun _ => ?_)
set_option maxHeartbeats 8000000 in
set_option maxRecDepth 100000 in
theorem weave_weaver_run.calls (k : Nat) (g : Nat) (s0_0 : List Int) (s0_1 : List Int) (s0_2 : List Int) (s0_3 : List Int) (s0_4 : List Int) (s0_5 : Int) (s0_6 : Int) (s0_7 : Int) (r1 : Int) (r2 : Int) (r3 : Int) (r4 : Int) (w0 w : World) (hI : IsS104 w0 w g s0_0 s0_1 s0_2 s0_3 s0_4 s0_5 s0_6 s0_7) (hB : Below w0.heap.size w0 w) (h : weave_weaver_run.f k s0_0 s0_1 s0_2 s0_3 s0_4 s0_5 s0_6 s0_7 = some (r1, r2, r3, r4)) :
    Calls Try.prog 76 #[.pointer (some ⟨g, 0, none⟩)] w fun e w' => e = .returned (.int .i64 r1) ∧ IsS104 w0 w' g s0_0 s0_1 s0_2 s0_3 s0_4 r2 r3 r4 ∧ Below w0.heap.size w0 w' ∧ KeepBut w w' g none := by
  have HI0 := Aside0.mk hI
  have HK := Aside0.mk (KeepBut.refl w g none)
  have HL := Aside0.mk hB.size
  clear hI
  have HW0 := Aside0.mk hB.size
  have HB := Aside0.mk hB
  clear hB
  have H : (weave_weaver_run.l0 k 0 s0_0 s0_1 s0_2 s0_3 s0_4 s0_5 s0_6 s0_7) = some (r1, r2, r3, r4) := h
  clear h
  have H' := Aside0.mk H
  clear H
  go_enter Try.func76, Try.ntmps76
  go_wp2
  repeat (go_quiet (fail); try go_wp2)
  go_loopg [3] k (fun kq v3 w' => ∃ (x3_1 : Int), v3 = .int .i64 x3_1 ∧ Aside0 (weave_weaver_run.l0 kq x3_1 s0_0 s0_1 s0_2 s0_3 s0_4 s0_5 s0_6 s0_7 = some (r1, r2, r3, r4)) ∧ Aside0 (kq ≤ k) ∧ Aside0 (IsS104 w0 w' g s0_0 s0_1 s0_2 s0_3 s0_4 s0_5 s0_6 s0_7) ∧ Aside0 (KeepBut w w' g none) ∧ Aside0 (Below w0.heap.size w0 w'))
  case atStart => exact ⟨(0), (by first | rfl | (simp; done) | (simp [*]; done)), H', ⟨Nat.le_refl _⟩, ⟨by repeat (first | (with_reducible first | exact HI0.out | apply IsS104.alloc | apply IsS104.drewN | apply IsS104.drew | apply IsS104.set_5 | apply IsS104.set_6 | apply IsS104.set_7) | exact HI0.out)⟩, ⟨by repeat (first | (with_reducible first | exact HK.out | apply KeepBut.set_ | apply keep_drewN | apply keep_drew | apply keep_alloc) | exact HK.out)⟩, ⟨by repeat (first | (with_reducible first | exact HB.out | apply below_alloc | apply pw_below_drewN | apply below_drew1 | refine below_set ?_ (IsS104.ge HI0.out)) | exact HB.out)⟩⟩
  case round =>
    clear H'
    obtain ⟨x3_1, rfl, HA, HK1, HI0, HK, HB⟩ := hrel
    cases gk with
    | zero => exact absurd HA.out (by simp [weave_weaver_run.l0])
    | succ k1 =>
      have H := HA.out
      clear HA
      simp only [weave_weaver_run.l0] at H
      by_cases c2 : (wrap64 (s0_5 + x3_1)) < (s0_0.length : Int)
      · rw [if_pos c2] at H
        have c2b0 : decide ((wrap64 (s0_5 + x3_1)) < (s0_0.length : Int)) = true := decide_eq_true c2
        clear c2
        obtain ⟨ji3, hji3⟩ : ∃ j_ : Int, (wrap64 (s0_5 + x3_1)) = j_ := ⟨_, rfl⟩
        replace H : (if 0 ≤ (ji3) then (if (ji3) < (s0_3.length : Int) then (if (rd s0_3 (ji3)) = (wrap64 (s0_6 + x3_1)) then (if (ji3) < (s0_4.length : Int) then (if (rd s0_4 (ji3)) = (wrap64 (s0_7 + x3_1)) then (weave_weaver_run.l0 k1 (wrap64 (x3_1 + 1)) s0_0 s0_1 s0_2 s0_3 s0_4 s0_5 s0_6 s0_7) else (some (x3_1, s0_5, s0_6, s0_7))) else (none)) else (some (x3_1, s0_5, s0_6, s0_7))) else (none)) else (none)) = some (r1, r2, r3, r4) := by first | (rw [hji3] at H; exact H) | (simp only [hji3] at H ⊢; exact H)
        (try rw [hji3] at c2b0)
        have hji3w : (IntKind.i64.wrap (s0_5 + x3_1)) = ji3 := (i64_w _).trans hji3
        by_cases c4 : 0 ≤ (ji3)
        · rw [if_pos c4] at H
          have c4b0 : decide (0 ≤ (ji3)) = true := decide_eq_true c4
          clear c4
          by_cases c5 : (ji3) < (s0_3.length : Int)
          · rw [if_pos c5] at H
            have c5b0 : decide ((ji3) < (s0_3.length : Int)) = true := decide_eq_true c5
            clear c5
            by_cases c6 : (rd s0_3 (ji3)) = (wrap64 (s0_6 + x3_1))
            · rw [if_pos c6] at H
              have c6b0 : ((rd s0_3 (ji3)) == (wrap64 (s0_6 + x3_1))) = true := beq_iff_eq.mpr c6
              have c6b1 : ((rd s0_3 (ji3)) != (wrap64 (s0_6 + x3_1))) = false := bne_eq_false_iff_eq.mpr c6
              clear c6
              by_cases c7 : (ji3) < (s0_4.length : Int)
              · rw [if_pos c7] at H
                have c7b0 : decide ((ji3) < (s0_4.length : Int)) = true := decide_eq_true c7
                clear c7
                by_cases c8 : (rd s0_4 (ji3)) = (wrap64 (s0_7 + x3_1))
                · rw [if_pos c8] at H
                  have c8b0 : ((rd s0_4 (ji3)) == (wrap64 (s0_7 + x3_1))) = true := beq_iff_eq.mpr c8
                  have c8b1 : ((rd s0_4 (ji3)) != (wrap64 (s0_7 + x3_1))) = false := bne_eq_false_iff_eq.mpr c8
                  clear c8
                  have H' := Aside0.mk H
                  clear H
                  obtain ⟨ASz9_0, cSz9_0, ASz9_1, cSz9_1, ASz9_2, cSz9_2, ASz9_3, cSz9_3, ASz9_4, cSz9_4, HGz9, hgz9, HSz9_0, HSz9_1, HSz9_2, HSz9_3, HSz9_4⟩ := HI0.out
                  have hcz9_0 := cellS104_0 HGz9
                  have hcz9_1 := cellS104_1 HGz9
                  have hcz9_2 := cellS104_2 HGz9
                  have hcz9_3 := cellS104_3 HGz9
                  have hcz9_4 := cellS104_4 HGz9
                  have hcz9_5 := cellS104_5 HGz9
                  have hcz9_6 := cellS104_6 HGz9
                  have hcz9_7 := cellS104_7 HGz9
                  have hfz9_5 := blk_frozen HGz9 5
                  have hfz9_6 := blk_frozen HGz9 6
                  have hfz9_7 := blk_frozen HGz9 7
                  clear HGz9 hgz9
                  have p101 : 0 ≤ ((ji3) : Int) := of_decide_eq_true (by first | (with_reducible assumption) | assumption)
                  have q101 : (ji3) < (s0_3.length : Int) := of_decide_eq_true (by first | (with_reducible assumption) | assumption)
                  obtain ⟨ad101, e101, hx101_0⟩ := Kd.at_int HSz9_3 (ji3) p101 q101
                  cases e101
                  replace hx101_0 := pw_cell_below HB.out hx101_0
                  replace p101 := eq_true p101
                  replace q101 := eq_true q101
                  have p102 : 0 ≤ ((ji3) : Int) := of_decide_eq_true (by first | (with_reducible assumption) | assumption)
                  have q102 : (ji3) < (s0_4.length : Int) := of_decide_eq_true (by first | (with_reducible assumption) | assumption)
                  obtain ⟨ad102, e102, hx102_0⟩ := Kd.at_int HSz9_4 (ji3) p102 q102
                  cases e102
                  replace hx102_0 := pw_cell_below HB.out hx102_0
                  replace p102 := eq_true p102
                  replace q102 := eq_true q102
                  go_wp2
                  repeat (go_quiet (fail); try go_wp2)
                  go_roundg k1
                  case measure => have := HK1.out; omega
                  case rel => exact ⟨(wrap64 (x3_1 + 1)), (by first | rfl | (simp; done) | (simp [*]; done)), H', ⟨by have := HK1.out; omega⟩, ⟨by repeat (first | (with_reducible first | exact HI0.out | apply IsS104.alloc | apply IsS104.drewN | apply IsS104.drew | apply IsS104.set_5 | apply IsS104.set_6 | apply IsS104.set_7) | exact HI0.out)⟩, ⟨by repeat (first | (with_reducible first | exact HK.out | apply KeepBut.set_ | apply keep_drewN | apply keep_drew | apply keep_alloc) | exact HK.out)⟩, ⟨by repeat (first | (with_reducible first | exact HB.out | apply below_alloc | apply pw_below_drewN | apply below_drew1 | refine below_set ?_ (IsS104.ge HI0.out)) | exact HB.out)⟩⟩
                · rw [if_neg c8] at H
                  have c8b0 : ((rd s0_4 (ji3)) == (wrap64 (s0_7 + x3_1))) = false := beq_eq_false_iff_ne.mpr c8
                  have c8b1 : ((rd s0_4 (ji3)) != (wrap64 (s0_7 + x3_1))) = true := bne_iff_ne.mpr c8
                  simp only [Option.some.injEq, Prod.mk.injEq] at H
                  obtain ⟨rfl, rfl, rfl, rfl⟩ := H
                  obtain ⟨ASz10_0, cSz10_0, ASz10_1, cSz10_1, ASz10_2, cSz10_2, ASz10_3, cSz10_3, ASz10_4, cSz10_4, HGz10, hgz10, HSz10_0, HSz10_1, HSz10_2, HSz10_3, HSz10_4⟩ := HI0.out
                  have hcz10_0 := cellS104_0 HGz10
                  have hcz10_1 := cellS104_1 HGz10
                  have hcz10_2 := cellS104_2 HGz10
                  have hcz10_3 := cellS104_3 HGz10
                  have hcz10_4 := cellS104_4 HGz10
                  have hcz10_5 := cellS104_5 HGz10
                  have hcz10_6 := cellS104_6 HGz10
                  have hcz10_7 := cellS104_7 HGz10
                  have hfz10_5 := blk_frozen HGz10 5
                  have hfz10_6 := blk_frozen HGz10 6
                  have hfz10_7 := blk_frozen HGz10 7
                  clear HGz10 hgz10
                  have p101 : 0 ≤ ((ji3) : Int) := of_decide_eq_true (by first | (with_reducible assumption) | assumption)
                  have q101 : (ji3) < (s0_3.length : Int) := of_decide_eq_true (by first | (with_reducible assumption) | assumption)
                  obtain ⟨ad101, e101, hx101_0⟩ := Kd.at_int HSz10_3 (ji3) p101 q101
                  cases e101
                  replace hx101_0 := pw_cell_below HB.out hx101_0
                  replace p101 := eq_true p101
                  replace q101 := eq_true q101
                  have p102 : 0 ≤ ((ji3) : Int) := of_decide_eq_true (by first | (with_reducible assumption) | assumption)
                  have q102 : (ji3) < (s0_4.length : Int) := of_decide_eq_true (by first | (with_reducible assumption) | assumption)
                  obtain ⟨ad102, e102, hx102_0⟩ := Kd.at_int HSz10_4 (ji3) p102 q102
                  cases e102
                  replace hx102_0 := pw_cell_below HB.out hx102_0
                  replace p102 := eq_true p102
                  replace q102 := eq_true q102
                  go_wp2
                  repeat (go_quiet (fail); try go_wp2)
                  go_ret
                  exact ⟨by first | rfl | (simp [errW_none, errW_some] <;> rfl) | (simp only [← hji3]; first | rfl | (simp [errW_none, errW_some] <;> rfl)) | (simp [*, errW_none, errW_some] <;> rfl), by repeat (first | (with_reducible first | exact HI0.out | apply IsS104.alloc | apply IsS104.drewN | apply IsS104.drew | apply IsS104.set_5 | apply IsS104.set_6 | apply IsS104.set_7) | exact HI0.out), by repeat (first | (with_reducible first | exact HB.out | apply below_alloc | apply pw_below_drewN | apply below_drew1 | refine below_set ?_ (IsS104.ge HI0.out)) | exact HB.out), by repeat (first | (with_reducible first | exact HK.out | apply KeepBut.set_ | apply keep_drewN | apply keep_drew | apply keep_alloc) | exact HK.out)⟩
              · rw [if_neg c7] at H
                exact absurd H (by simp)
            · rw [if_neg c6] at H
              have c6b0 : ((rd s0_3 (ji3)) == (wrap64 (s0_6 + x3_1))) = false := beq_eq_false_iff_ne.mpr c6
              have c6b1 : ((rd s0_3 (ji3)) != (wrap64 (s0_6 + x3_1))) = true := bne_iff_ne.mpr c6
              simp only [Option.some.injEq, Prod.mk.injEq] at H
              obtain ⟨rfl, rfl, rfl, rfl⟩ := H
              obtain ⟨ASz11_0, cSz11_0, ASz11_1, cSz11_1, ASz11_2, cSz11_2, ASz11_3, cSz11_3, ASz11_4, cSz11_4, HGz11, hgz11, HSz11_0, HSz11_1, HSz11_2, HSz11_3, HSz11_4⟩ := HI0.out
              have hcz11_0 := cellS104_0 HGz11
              have hcz11_1 := cellS104_1 HGz11
              have hcz11_2 := cellS104_2 HGz11
              have hcz11_3 := cellS104_3 HGz11
              have hcz11_4 := cellS104_4 HGz11
              have hcz11_5 := cellS104_5 HGz11
              have hcz11_6 := cellS104_6 HGz11
              have hcz11_7 := cellS104_7 HGz11
              have hfz11_5 := blk_frozen HGz11 5
              have hfz11_6 := blk_frozen HGz11 6
              have hfz11_7 := blk_frozen HGz11 7
              clear HGz11 hgz11
              have p101 : 0 ≤ ((ji3) : Int) := of_decide_eq_true (by first | (with_reducible assumption) | assumption)
              have q101 : (ji3) < (s0_3.length : Int) := of_decide_eq_true (by first | (with_reducible assumption) | assumption)
              obtain ⟨ad101, e101, hx101_0⟩ := Kd.at_int HSz11_3 (ji3) p101 q101
              cases e101
              replace hx101_0 := pw_cell_below HB.out hx101_0
              replace p101 := eq_true p101
              replace q101 := eq_true q101
              go_wp2
              repeat (go_quiet (fail); try go_wp2)
              go_ret
              exact ⟨by first | rfl | (simp [errW_none, errW_some] <;> rfl) | (simp only [← hji3]; first | rfl | (simp [errW_none, errW_some] <;> rfl)) | (simp [*, errW_none, errW_some] <;> rfl), by repeat (first | (with_reducible first | exact HI0.out | apply IsS104.alloc | apply IsS104.drewN | apply IsS104.drew | apply IsS104.set_5 | apply IsS104.set_6 | apply IsS104.set_7) | exact HI0.out), by repeat (first | (with_reducible first | exact HB.out | apply below_alloc | apply pw_below_drewN | apply below_drew1 | refine below_set ?_ (IsS104.ge HI0.out)) | exact HB.out), by repeat (first | (with_reducible first | exact HK.out | apply KeepBut.set_ | apply keep_drewN | apply keep_drew | apply keep_alloc) | exact HK.out)⟩
          · rw [if_neg c5] at H
            exact absurd H (by simp)
        · rw [if_neg c4] at H
          exact absurd H (by simp)
      · rw [if_neg c2] at H
        have c2b0 : decide ((wrap64 (s0_5 + x3_1)) < (s0_0.length : Int)) = false := decide_eq_false c2
        clear c2
        simp only [Option.some.injEq, Prod.mk.injEq] at H
        obtain ⟨rfl, rfl, rfl, rfl⟩ := H
        obtain ⟨ASz12_0, cSz12_0, ASz12_1, cSz12_1, ASz12_2, cSz12_2, ASz12_3, cSz12_3, ASz12_4, cSz12_4, HGz12, hgz12, HSz12_0, HSz12_1, HSz12_2, HSz12_3, HSz12_4⟩ := HI0.out
        have hcz12_0 := cellS104_0 HGz12
        have hcz12_1 := cellS104_1 HGz12
        have hcz12_2 := cellS104_2 HGz12
        have hcz12_3 := cellS104_3 HGz12
        have hcz12_4 := cellS104_4 HGz12
        have hcz12_5 := cellS104_5 HGz12
        have hcz12_6 := cellS104_6 HGz12
        have hcz12_7 := cellS104_7 HGz12
        have hfz12_5 := blk_frozen HGz12 5
        have hfz12_6 := blk_frozen HGz12 6
        have hfz12_7 := blk_frozen HGz12 7
        clear HGz12 hgz12
        go_wp2
        repeat (go_quiet (fail); try go_wp2)
        go_ret
        exact ⟨by first | rfl | (simp [errW_none, errW_some] <;> rfl) | (simp [*, errW_none, errW_some] <;> rfl), by repeat (first | (with_reducible first | exact HI0.out | apply IsS104.alloc | apply IsS104.drewN | apply IsS104.drew | apply IsS104.set_5 | apply IsS104.set_6 | apply IsS104.set_7) | exact HI0.out), by repeat (first | (with_reducible first | exact HB.out | apply below_alloc | apply pw_below_drewN | apply below_drew1 | refine below_set ?_ (IsS104.ge HI0.out)) | exact HB.out), by repeat (first | (with_reducible first | exact HK.out | apply KeepBut.set_ | apply keep_drewN | apply keep_drew | apply keep_alloc) | exact HK.out)⟩

end Go.Proofs.Ytlkgdfeeepiidaa.All
