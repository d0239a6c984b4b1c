/- The kit's contract for slices.Equal at this program; the contracts of weave.Chunks, Clean and Merge. -/
import Derived.Shelf.Slices.Equal
import Derived.Shelf.Slices.Empties2
import Derived.Test.YtlkgdfeeepiidaaProg
import Derived.Test.YtlkgdfeeepiidaaF0
import Derived.Test.YtlkgdfeeepiidaaWLast
import Derived.Test.YtlkgdfeeepiidaaF76
import Derived.Deep.RegionHeld3
import Derived.Laws.Rows
import Derived.Test.YtlkgdfeeepiidaaF75
import Derived.Test.YtlkgdfeeepiidaaF78
namespace Go.Proofs.Ytlkgdfeeepiidaa.Sh
open Go.Proofs Go.Shelf
def lays111_ren : Go.Shelf.Ren := ⟨fun | 111 => 100 | n => n, fun | 28 => 29 | 3 => 3 | 4 => 4 | 0 => 0 | n => n, fun | n => n⟩
theorem lays111 : Go.Proofs.Lays.n111 Try.prog lays111_ren := {
  mixed := by kernel_rfl
  f111 := Try.func100.trans (congrArg some (by kernel_rfl))
  t0 := Try.underlying0
  a0 := Try.isAgg0
  z0 := Try.sizeOf0
  v0 := Try.zeroValue0
  t3 := Try.underlying3
  a3 := Try.isAgg3
  z3 := Try.sizeOf3
  v3 := Try.zeroValue3
  t4 := Try.underlying4
  a4 := Try.isAgg4
  z4 := Try.sizeOf4
  v4 := Try.zeroValue4
  t28 := Try.underlying29
  a28 := Try.isAgg29
  z28 := Try.sizeOf29
  v28 := Try.zeroValue29 }
open Go.RowKit Go.Lib in
theorem slices_Equal_int (b1 o1 n c b2 o2 m d : Nat) (xs ys : List Int) (w : World) (hx : n ≤ xs.length) (hy : m ≤ ys.length) (hbig : n ≤ 9223372036854775807) (hbig2 : m ≤ 9223372036854775807) (hc1 : ∀ j, j < xs.length → w.cell? ⟨b1, o1 + j, none⟩ = some (.int .i64 (xs.getD j 0))) (hc2 : ∀ j, j < ys.length → w.cell? ⟨b2, o2 + j, none⟩ = some (.int .i64 (ys.getD j 0))) :
    Calls Try.prog 100 #[.slice (some ⟨b1, o1, none⟩) n c, .slice (some ⟨b2, o2, none⟩) m d] w fun e w' => e = .returned (.bool (xs.take n == ys.take m)) ∧ ∃ q, w' = w.drewN q := Any.slices_Equal_int lays111 b1 o1 n c b2 o2 m d xs ys w hx hy hbig hbig2 hc1 hc2
open Go.RowKit Go.Lib in
theorem slices_Equal_int_empty (a1 a2 : Option Addr) (c m d : Nat) (w : World) (hbig2 : m ≤ 9223372036854775807) :
    Calls Try.prog 100 #[.slice a1 0 c, .slice a2 m d] w fun e w' => e = .returned (.bool (decide (m = 0))) ∧ w' = w := Any.slices_Equal_int_empty lays111 a1 a2 c m d w hbig2
open Go.RowKit Go.Lib in
theorem slices_Equal_int_lens (a1 a2 : Option Addr) (n c m d : Nat) (w : World) (hnm : n ≠ m) :
    Calls Try.prog 100 #[.slice a1 n c, .slice a2 m d] w fun e w' => e = .returned (.bool false) ∧ w' = w := Any.slices_Equal_int_lens lays111 a1 a2 n c m d w hnm
end Go.Proofs.Ytlkgdfeeepiidaa.Sh
namespace Go.Proofs.Ytlkgdfeeepiidaa.XWv
open Go.RowKit Go.Proofs.Ytlkgdfeeepiidaa.All Go.Proofs.YtlkgdfeeepiidaaW.PrintWords Go.Proofs.YtlkgdfeeepiidaaW.PrintLast Go.Proofs.YtlkgdfeeepiidaaW.PrintMore
set_option linter.unusedVariables false
set_option linter.unusedSimpArgs false
/-- The numbers from one place on, up to another. -/
def part (l : List Int) (f t : Nat) : List Int := (l.take t).drop f
theorem part_length (l : List Int) (f t : Nat) (h : t ≤ l.length) : (part l f t).length = t - f := by unfold part; simp; omega
theorem of_at (f t : Nat) (A : Option Addr) (c : Nat) (l : List Int) (w : World) (h1 : f ≤ t) (h2 : t ≤ l.length) (hr : Kd.C (Kd.int .i64) w A l.length l) (hc : l.length ≤ c) :
    ∃ A' c', (∀ W, Calls Try.prog 83 #[.agg #[.int .i64 (f : Int), .int .i64 (t : Int)], .slice A l.length c] W fun e w' => e = .returned (.slice A' (part l f t).length c') ∧ w' = W.alloc (.cells #[.int .i64 (f : Int), .int .i64 (t : Int)] 73)) ∧
      Kd.C (Kd.int .i64) w A' (part l f t).length (part l f t) ∧ (part l f t).length ≤ c' := by
  have hm := Kd.C_mid hr h1 h2 hc
  have hpl := part_length l f t h2
  rw [show ((l.take t).drop f).length = t - f from hpl, show f * (Kd.int .i64).sz = f from Nat.mul_one f] at hm
  rw [hpl]
  have g1 : (0 ≤ (f : Int)) = True := eq_true (by omega)
  have g2 : (0 ≤ (t : Int)) = True := eq_true (by omega)
  have g3 : ((f : Int) ≤ (t : Int)) = True := eq_true (by omega)
  have g4 : ((t : Int) ≤ (c : Int)) = True := eq_true (by omega)
  have g5 : (f ≤ t) = True := eq_true h1
  have g6 : (t ≤ c) = True := eq_true (by omega)
  by_cases hcf : c = f
  · have g7 := eq_true hcf
    rw [if_pos hcf] at hm
    refine ⟨A, c - f, fun W => ?_, hm, by omega⟩
    clear hm hcf hr
    go_enter Try.func83, Try.ntmps83
    go_wp2
    go_ret
    exact ⟨rfl, rfl⟩
  · have g7 := eq_false hcf
    rw [if_neg hcf] at hm
    refine ⟨A.map (·.add f), c - f, fun W => ?_, hm, by omega⟩
    clear hm hcf hr
    go_enter Try.func83, Try.ntmps83
    go_wp2
    go_ret
    exact ⟨rfl, rfl⟩
/-- slices.Equal of numbers, whatever the rows. -/
theorem equal_calls (A1 : Option Addr) (c1 : Nat) (xs : List Int) (A2 : Option Addr) (c2 : Nat) (ys : List Int) (w : World) (h1 : Kd.C (Kd.int .i64) w A1 xs.length xs) (h2 : Kd.C (Kd.int .i64) w A2 ys.length ys) :
    Calls Try.prog 100 #[.slice A1 xs.length c1, .slice A2 ys.length c2] w fun e w' => e = .returned (.bool (xs == ys)) ∧ ∃ q, w' = w.drewN q := by
  have m1 := Kd.C_max h1
  have m2 := Kd.C_max h2
  by_cases hne : xs.length = ys.length
  · by_cases h0 : 0 < xs.length
    · have plain : ∀ (A : Option Addr) (zs : List Int), Kd.C (Kd.int .i64) w A zs.length zs → 0 < zs.length → ∃ bk o, A = some ⟨bk, o, none⟩ ∧ ∀ j, j < zs.length → w.cell? ⟨bk, o + j, none⟩ = some (.int .i64 (zs.getD j 0)) := by
        intro A zs h hz
        obtain ⟨ad, e, hc⟩ := Kd.at_int h 0 (by omega) (by omega)
        subst e
        obtain ⟨bk, o, sp⟩ := ad
        have hsp : sp = none := by simpa [Addr.add] using World.cell?_spot hc
        subst hsp
        refine ⟨bk, o, rfl, fun j hj => ?_⟩
        obtain ⟨ad, e, hc⟩ := Kd.at_int h (j : Int) (by omega) (by omega)
        cases e
        rw [Int.toNat_natCast] at hc
        have : rd zs (j : Int) = zs.getD j 0 := by unfold rd; rw [Int.toNat_natCast]
        rw [← this, ← hc]
        unfold Addr.add
        split
        · rename_i h0; subst h0; rfl
        · rfl
      obtain ⟨b1, o1, rfl, k1⟩ := plain A1 xs h1 h0
      obtain ⟨b2, o2, rfl, k2⟩ := plain A2 ys h2 (by omega)
      refine (Sh.slices_Equal_int b1 o1 xs.length c1 b2 o2 ys.length c2 xs ys w (Nat.le_refl _) (Nat.le_refl _) m1 m2 k1 k2).mono ?_
      rintro e w' ⟨rfl, hq⟩
      rw [List.take_of_length_le (Nat.le_refl _), List.take_of_length_le (Nat.le_refl _)]
      exact ⟨rfl, hq⟩
    · have hx : xs = [] := List.length_eq_zero_iff.1 (by omega)
      have hy : ys = [] := List.length_eq_zero_iff.1 (by omega)
      subst hx; subst hy
      refine (Sh.slices_Equal_int_empty A1 A2 c1 0 c2 w (by omega)).mono ?_
      rintro e w' ⟨rfl, rfl⟩
      exact ⟨rfl, 0, rfl⟩
  · refine (Sh.slices_Equal_int_lens A1 A2 xs.length c1 ys.length c2 w hne).mono ?_
    rintro e w' ⟨rfl, rfl⟩
    have : (xs == ys) = false := by rw [beq_eq_false_iff_ne]; intro h; exact hne (by rw [h])
    rw [this]
    exact ⟨rfl, 0, rfl⟩
end Go.Proofs.Ytlkgdfeeepiidaa.XWv
namespace Go.Proofs.Ytlkgdfeeepiidaa.XWv
open Go.Proofs.YtlkgdfeeepiidaaW.PrintLast
section
variable {P : Program} {ops : Array Oper} {Q : Exit → Act → World → Prop} {md : Region.Mode} {S : World → Prop} {ds : List Nat}
theorem one_keep {i : Nat} {N : Option Tmp} {oi : Oper} {fuel : Nat} {l : Array Bool} {a : Act} {w : World} (l' : Array Bool) (hi : ops[i]? = some oi) (hN : oi.dst = N) (hc : readyB md ops l l' i = true)
    (h : ∀ K : Act → World → Prop, Shut (∀ a' w', (S w → S w') → wpAnyLast P md ops Q S ds fuel l' a' w' → K a' w') → if Region.wanted oi (yielded ops a.tmps) = true then Oper.wp P oi a w K Q else K (a.put N undef) w) :
    wpAnyLast P md ops Q S ds (fuel + 1) l a w := by
  subst hN
  simp only [readyB, Bool.and_eq_true, beq_iff_eq] at hc
  obtain ⟨h1, h2⟩ := hc
  subst h2
  refine wpAnyLast_ready h1 (by simp) (fun j hj => ?_)
  rcases List.mem_cons.1 hj with rfl | hj
  · exact wpOp_step hi (fun K' hK => h K' (fun a w hS hW => hK a w ⟨fun _ => hS, hW⟩))
  · cases hj
theorem two_keep {i j : Nat} {Ni Nj : Option Tmp} {oi oj : Oper} {fuel : Nat} {l : Array Bool} {a : Act} {w : World} (li lj : Array Bool) (hi : ops[i]? = some oi) (hj : ops[j]? = some oj) (hNi : oi.dst = Ni) (hNj : oj.dst = Nj)
    (hc : (Region.ready md ops l == [i, j] && l.setIfInBounds i true == li && l.setIfInBounds j true == lj) = true) (hdi : i ∈ ds)
    (h1 : ∀ K : Act → World → Prop, Shut (∀ a' w', wpAnyLast P md ops Q S ds fuel li a' w' → K a' w') → if Region.wanted oi (yielded ops a.tmps) = true then Oper.wp P oi a w K Q else K (a.put Ni undef) w)
    (h2 : ∀ K : Act → World → Prop, Shut (∀ a' w', (S w → S w') → wpAnyLast P md ops Q S ds fuel lj a' w' → K a' w') → if Region.wanted oj (yielded ops a.tmps) = true then Oper.wp P oj a w K Q else K (a.put Nj undef) w) :
    wpAnyLast P md ops Q S ds (fuel + 1) l a w := by
  subst hNi
  subst hNj
  simp only [Bool.and_eq_true, beq_iff_eq] at hc
  obtain ⟨⟨h3, h4⟩, h5⟩ := hc
  subst h4
  subst h5
  refine wpAnyLast_ready h3 (by simp) (AllReadyL.cons_last hi hdi (fun K hK => h1 K hK) (fun k hk => ?_))
  rcases List.mem_cons.1 hk with rfl | hk
  · exact wpOp_step hj (fun K' hK => h2 K' (fun a w hS hW => hK a w ⟨fun _ => hS, hW⟩))
  · cases hk
end
end Go.Proofs.Ytlkgdfeeepiidaa.XWv
namespace Go.Proofs.Ytlkgdfeeepiidaa.XWv
open Go.RowKit Go.Proofs.Ytlkgdfeeepiidaa.All Go.Proofs.YtlkgdfeeepiidaaW.PrintWords Go.Proofs.YtlkgdfeeepiidaaW.PrintLast Go.Proofs.YtlkgdfeeepiidaaW.PrintMore
set_option linter.unusedVariables false
set_option linter.unusedSimpArgs false
theorem cell_alloc {w : World} {a : Addr} {v : Value} (o : Obj) (h : w.cell? a = some v) : (w.alloc o).cell? a = some v := (World.cell?_alloc_lt _ _ _ (World.block_lt_of_cell? w a h)).trans h
/-- What comes of a chunk that isn't a run of stable places. -/
def outc (b o t : List Int) : Int := if (o == t) = true then 4 else if (o == b) = true then 3 else if (t == b) = true then 2 else 5
/-- The places of a chunk as a value. -/
def chunkV (x0 x1 y0 y1 z0 z1 c : Int) : Value := .agg #[.int .i64 x0, .int .i64 x1, .int .i64 y0, .int .i64 y1, .int .i64 z0, .int .i64 z1, .int .i64 c]
set_option maxRecDepth 100000 in
set_option maxHeartbeats 1600000 in
theorem outcome_calls (g : Nat) (A0 : Option Addr) (c0 : Nat) (l0 : List Int) (A1 : Option Addr) (c1 : Nat) (l1 : List Int) (A2 : Option Addr) (c2 : Nat) (l2 : List Int) (x0 x1 y0 y1 z0 z1 : Nat) (c : Int) (w0 w : World)
    (k0 : w.cell? ⟨g, 0, none⟩ = some (.slice A0 l0.length c0)) (k1 : w.cell? ⟨g, 1, none⟩ = some (.slice A1 l1.length c1)) (k2 : w.cell? ⟨g, 2, none⟩ = some (.slice A2 l2.length c2))
    (hr0 : Kd.C (Kd.int .i64) w0 A0 l0.length l0) (hr1 : Kd.C (Kd.int .i64) w0 A1 l1.length l1) (hr2 : Kd.C (Kd.int .i64) w0 A2 l2.length l2) (hc0 : l0.length ≤ c0) (hc1 : l1.length ≤ c1) (hc2 : l2.length ≤ c2)
    (hx : x0 ≤ x1) (hx' : x1 ≤ l0.length) (hy : y0 ≤ y1) (hy' : y1 ≤ l1.length) (hz : z0 ≤ z1) (hz' : z1 ≤ l2.length) (hB : Below w0.heap.size w0 w) :
    Calls Try.prog 79 #[.pointer (some ⟨g, 0, none⟩), chunkV x0 x1 y0 y1 z0 z1 c] w fun e w' => e = .returned (.int .i64 (outc (part l0 x0 x1) (part l1 y0 y1) (part l2 z0 z1))) ∧ Below w.heap.size w w' := by
  obtain ⟨B0, d0, o0, r0, _⟩ := of_at x0 x1 A0 c0 l0 w0 hx hx' hr0 hc0
  obtain ⟨B1, d1, o1, r1, _⟩ := of_at y0 y1 A1 c1 l1 w0 hy hy' hr1 hc1
  obtain ⟨B2, d2, o2, r2, _⟩ := of_at z0 z1 A2 c2 l2 w0 hz hz' hr2 hc2
  clear hr0 hr1 hr2
  generalize part l0 x0 x1 = b at *
  generalize part l1 y0 y1 = o at *
  generalize part l2 z0 z1 = t at *
  have HB := Aside0.mk hB
  replace o0 := Aside0.mk o0
  replace o1 := Aside0.mk o1
  replace o2 := Aside0.mk o2
  have R0 := Aside0.mk r0
  have R1 := Aside0.mk r1
  have R2 := Aside0.mk r2
  clear hB r0 r1 r2
  unfold chunkV
  go_enter Try.func79, Try.ntmps79
  go_upto_region 1 with (fail)
  have hb := heap_alloc_new w (Obj.cells #[Value.int IntKind.i64 ↑x0, Value.int IntKind.i64 ↑x1, Value.int IntKind.i64 ↑y0, Value.int IntKind.i64 ↑y1, Value.int IntKind.i64 ↑z0, Value.int IntKind.i64 ↑z1, Value.int IntKind.i64 c] 75)
  have hB2 := Aside0.mk (below_alloc (Below.refl w.heap.size w) (Obj.cells #[Value.int IntKind.i64 ↑x0, Value.int IntKind.i64 ↑x1, Value.int IntKind.i64 ↑y0, Value.int IntKind.i64 ↑y1, Value.int IntKind.i64 ↑z0, Value.int IntKind.i64 ↑z1, Value.int IntKind.i64 c] 75))
  have q0 := cell_alloc (Obj.cells #[Value.int IntKind.i64 ↑x0, Value.int IntKind.i64 ↑x1, Value.int IntKind.i64 ↑y0, Value.int IntKind.i64 ↑y1, Value.int IntKind.i64 ↑z0, Value.int IntKind.i64 ↑z1, Value.int IntKind.i64 c] 75) k0
  have q1 := cell_alloc (Obj.cells #[Value.int IntKind.i64 ↑x0, Value.int IntKind.i64 ↑x1, Value.int IntKind.i64 ↑y0, Value.int IntKind.i64 ↑y1, Value.int IntKind.i64 ↑z0, Value.int IntKind.i64 ↑z1, Value.int IntKind.i64 c] 75) k1
  have q2 := cell_alloc (Obj.cells #[Value.int IntKind.i64 ↑x0, Value.int IntKind.i64 ↑x1, Value.int IntKind.i64 ↑y0, Value.int IntKind.i64 ↑y1, Value.int IntKind.i64 ↑z0, Value.int IntKind.i64 ↑z1, Value.int IntKind.i64 c] 75) k2
  have b0 : (w.alloc (Obj.cells #[Value.int IntKind.i64 ↑x0, Value.int IntKind.i64 ↑x1, Value.int IntKind.i64 ↑y0, Value.int IntKind.i64 ↑y1, Value.int IntKind.i64 ↑z0, Value.int IntKind.i64 ↑z1, Value.int IntKind.i64 c] 75)).cell? ⟨w.heap.size, 0, none⟩ = some (.int .i64 (x0 : Int)) := (blk_cell hb 0).trans rfl
  have b1 : (w.alloc (Obj.cells #[Value.int IntKind.i64 ↑x0, Value.int IntKind.i64 ↑x1, Value.int IntKind.i64 ↑y0, Value.int IntKind.i64 ↑y1, Value.int IntKind.i64 ↑z0, Value.int IntKind.i64 ↑z1, Value.int IntKind.i64 c] 75)).cell? ⟨w.heap.size, 1, none⟩ = some (.int .i64 (x1 : Int)) := (blk_cell hb 1).trans rfl
  have b2 : (w.alloc (Obj.cells #[Value.int IntKind.i64 ↑x0, Value.int IntKind.i64 ↑x1, Value.int IntKind.i64 ↑y0, Value.int IntKind.i64 ↑y1, Value.int IntKind.i64 ↑z0, Value.int IntKind.i64 ↑z1, Value.int IntKind.i64 c] 75)).cell? ⟨w.heap.size, 2, none⟩ = some (.int .i64 (y0 : Int)) := (blk_cell hb 2).trans rfl
  have b3 : (w.alloc (Obj.cells #[Value.int IntKind.i64 ↑x0, Value.int IntKind.i64 ↑x1, Value.int IntKind.i64 ↑y0, Value.int IntKind.i64 ↑y1, Value.int IntKind.i64 ↑z0, Value.int IntKind.i64 ↑z1, Value.int IntKind.i64 c] 75)).cell? ⟨w.heap.size, 3, none⟩ = some (.int .i64 (y1 : Int)) := (blk_cell hb 3).trans rfl
  have b4 : (w.alloc (Obj.cells #[Value.int IntKind.i64 ↑x0, Value.int IntKind.i64 ↑x1, Value.int IntKind.i64 ↑y0, Value.int IntKind.i64 ↑y1, Value.int IntKind.i64 ↑z0, Value.int IntKind.i64 ↑z1, Value.int IntKind.i64 c] 75)).cell? ⟨w.heap.size, 4, none⟩ = some (.int .i64 (z0 : Int)) := (blk_cell hb 4).trans rfl
  have b5 : (w.alloc (Obj.cells #[Value.int IntKind.i64 ↑x0, Value.int IntKind.i64 ↑x1, Value.int IntKind.i64 ↑y0, Value.int IntKind.i64 ↑y1, Value.int IntKind.i64 ↑z0, Value.int IntKind.i64 ↑z1, Value.int IntKind.i64 c] 75)).cell? ⟨w.heap.size, 5, none⟩ = some (.int .i64 (z1 : Int)) := (blk_cell hb 5).trans rfl
  have BW := Aside0.mk (below_step HB.out hB2.out)
  clear hb k0 k1 k2
  generalize hW : w.alloc (Obj.cells #[Value.int IntKind.i64 ↑x0, Value.int IntKind.i64 ↑x1, Value.int IntKind.i64 ↑y0, Value.int IntKind.i64 ↑y1, Value.int IntKind.i64 ↑z0, Value.int IntKind.i64 ↑z1, Value.int IntKind.i64 c] 75) = W at *
  generalize hn : w.heap.size = n at b0 b1 b2 b3 b4 b5 ⊢
  clear hW hn
  go_region_held3 (fun w' => w'.cell? ⟨g, 0, none⟩ = some (.slice A0 l0.length c0) ∧ w'.cell? ⟨g, 1, none⟩ = some (.slice A1 l1.length c1) ∧ w'.cell? ⟨g, 2, none⟩ = some (.slice A2 l2.length c2) ∧ w'.cell? ⟨n, 0, none⟩ = some (.int .i64 (x0 : Int)) ∧ w'.cell? ⟨n, 1, none⟩ = some (.int .i64 (x1 : Int)) ∧ w'.cell? ⟨n, 2, none⟩ = some (.int .i64 (y0 : Int)) ∧ w'.cell? ⟨n, 3, none⟩ = some (.int .i64 (y1 : Int)) ∧ w'.cell? ⟨n, 4, none⟩ = some (.int .i64 (z0 : Int)) ∧ w'.cell? ⟨n, 5, none⟩ = some (.int .i64 (z1 : Int)))
    (((try dsimp only); (repeat' apply And.intro) <;> (first | assumption | (refine cell_alloc _ ?_; assumption) | (refine cell_alloc _ ?_; refine cell_alloc _ ?_; assumption) | (refine cell_alloc _ ?_; refine cell_alloc _ ?_; refine cell_alloc _ ?_; assumption))))
    (first
      | (go_at_call_of 83 (Value.agg #[Value.int IntKind.i64 (x0 : Int), Value.int IntKind.i64 (x1 : Int)]); refine (o0.out _).mono ?_; rintro e w' ⟨rfl, rfl⟩)
      | (go_at_call_of 83 (Value.agg #[Value.int IntKind.i64 (y0 : Int), Value.int IntKind.i64 (y1 : Int)]); refine (o1.out _).mono ?_; rintro e w' ⟨rfl, rfl⟩)
      | (go_at_call_of 83 (Value.agg #[Value.int IntKind.i64 (z0 : Int), Value.int IntKind.i64 (z1 : Int)]); refine (o2.out _).mono ?_; rintro e w' ⟨rfl, rfl⟩))
  have BV := Aside0.mk (below_drew1 (below_alloc (below_alloc (below_alloc BW.out (Obj.cells #[Value.int IntKind.i64 ↑x0, Value.int IntKind.i64 ↑x1] 73)) (Obj.cells #[Value.int IntKind.i64 ↑y0, Value.int IntKind.i64 ↑y1] 73)) (Obj.cells #[Value.int IntKind.i64 ↑z0, Value.int IntKind.i64 ↑z1] 73)))
  have BX := Aside0.mk (below_drew1 (below_alloc (below_alloc (below_alloc hB2.out (Obj.cells #[Value.int IntKind.i64 ↑x0, Value.int IntKind.i64 ↑x1] 73)) (Obj.cells #[Value.int IntKind.i64 ↑y0, Value.int IntKind.i64 ↑y1] 73)) (Obj.cells #[Value.int IntKind.i64 ↑z0, Value.int IntKind.i64 ↑z1] 73)))
  generalize (((W.alloc (Obj.cells #[Value.int IntKind.i64 ↑x0, Value.int IntKind.i64 ↑x1] 73)).alloc (Obj.cells #[Value.int IntKind.i64 ↑y0, Value.int IntKind.i64 ↑y1] 73)).alloc (Obj.cells #[Value.int IntKind.i64 ↑z0, Value.int IntKind.i64 ↑z1] 73)).drew = V at *
  clear o0 o1 o2 q0 q1 q2 b0 b1 b2 b3 b4 b5 hB2 BW HB
  by_cases h1 : (o == t) = true
  · have E := Aside0.mk (show outc b o t = 4 by unfold outc; rw [if_pos h1])
    go_wp2_with (first | (go_at_call 100; with_reducible refine (equal_calls B1 _ o B2 _ t _ ?_ ?_).mono ?_; (first | exact Kd.C_drewN (Kd.C_below R1.out BV.out) _ | exact Kd.C_below R1.out BV.out); (first | exact Kd.C_drewN (Kd.C_below R2.out BV.out) _ | exact Kd.C_below R2.out BV.out); rintro e w' ⟨rfl, q, rfl⟩; simp only [h1, World.drewN_drewN]))
    go_ret
    exact ⟨by rw [E.out]; rfl, pw_below_drewN BX.out _⟩
  · have n1 := h1
    rw [Bool.not_eq_true] at h1
    by_cases h2 : (o == b) = true
    · have E := Aside0.mk (show outc b o t = 3 by unfold outc; rw [if_neg n1, if_pos h2])
      clear n1
      go_wp2_with (first | (go_at_call 100; with_reducible refine (equal_calls B1 _ o B2 _ t _ ?_ ?_).mono ?_; (first | exact Kd.C_drewN (Kd.C_below R1.out BV.out) _ | exact Kd.C_below R1.out BV.out); (first | exact Kd.C_drewN (Kd.C_below R2.out BV.out) _ | exact Kd.C_below R2.out BV.out); rintro e w' ⟨rfl, q, rfl⟩; simp only [h1, World.drewN_drewN]) | (go_at_call 100; with_reducible refine (equal_calls B1 _ o B0 _ b _ ?_ ?_).mono ?_; (first | exact Kd.C_drewN (Kd.C_below R1.out BV.out) _ | exact Kd.C_below R1.out BV.out); (first | exact Kd.C_drewN (Kd.C_below R0.out BV.out) _ | exact Kd.C_below R0.out BV.out); rintro e w' ⟨rfl, q, rfl⟩; simp only [h2, World.drewN_drewN]))
      go_ret
      exact ⟨by rw [E.out]; rfl, pw_below_drewN BX.out _⟩
    · have n2 := h2
      rw [Bool.not_eq_true] at h2
      by_cases h3 : (t == b) = true
      · have E := Aside0.mk (show outc b o t = 2 by unfold outc; rw [if_neg n1, if_neg n2, if_pos h3])
        clear n1 n2
        go_wp2_with (first | (go_at_call 100; with_reducible refine (equal_calls B1 _ o B2 _ t _ ?_ ?_).mono ?_; (first | exact Kd.C_drewN (Kd.C_below R1.out BV.out) _ | exact Kd.C_below R1.out BV.out); (first | exact Kd.C_drewN (Kd.C_below R2.out BV.out) _ | exact Kd.C_below R2.out BV.out); rintro e w' ⟨rfl, q, rfl⟩; simp only [h1, World.drewN_drewN]) | (go_at_call 100; with_reducible refine (equal_calls B1 _ o B0 _ b _ ?_ ?_).mono ?_; (first | exact Kd.C_drewN (Kd.C_below R1.out BV.out) _ | exact Kd.C_below R1.out BV.out); (first | exact Kd.C_drewN (Kd.C_below R0.out BV.out) _ | exact Kd.C_below R0.out BV.out); rintro e w' ⟨rfl, q, rfl⟩; simp only [h2, World.drewN_drewN]) | (go_at_call 100; with_reducible refine (equal_calls B2 _ t B0 _ b _ ?_ ?_).mono ?_; (first | exact Kd.C_drewN (Kd.C_below R2.out BV.out) _ | exact Kd.C_below R2.out BV.out); (first | exact Kd.C_drewN (Kd.C_below R0.out BV.out) _ | exact Kd.C_below R0.out BV.out); rintro e w' ⟨rfl, q, rfl⟩; simp only [h3, World.drewN_drewN]))
        go_ret
        exact ⟨by rw [E.out]; rfl, pw_below_drewN BX.out _⟩
      · have E := Aside0.mk (show outc b o t = 5 by unfold outc; rw [if_neg n1, if_neg n2, if_neg h3])
        rw [Bool.not_eq_true] at h3
        clear n1 n2
        go_wp2_with (first | (go_at_call 100; with_reducible refine (equal_calls B1 _ o B2 _ t _ ?_ ?_).mono ?_; (first | exact Kd.C_drewN (Kd.C_below R1.out BV.out) _ | exact Kd.C_below R1.out BV.out); (first | exact Kd.C_drewN (Kd.C_below R2.out BV.out) _ | exact Kd.C_below R2.out BV.out); rintro e w' ⟨rfl, q, rfl⟩; simp only [h1, World.drewN_drewN]) | (go_at_call 100; with_reducible refine (equal_calls B1 _ o B0 _ b _ ?_ ?_).mono ?_; (first | exact Kd.C_drewN (Kd.C_below R1.out BV.out) _ | exact Kd.C_below R1.out BV.out); (first | exact Kd.C_drewN (Kd.C_below R0.out BV.out) _ | exact Kd.C_below R0.out BV.out); rintro e w' ⟨rfl, q, rfl⟩; simp only [h2, World.drewN_drewN]) | (go_at_call 100; with_reducible refine (equal_calls B2 _ t B0 _ b _ ?_ ?_).mono ?_; (first | exact Kd.C_drewN (Kd.C_below R2.out BV.out) _ | exact Kd.C_below R2.out BV.out); (first | exact Kd.C_drewN (Kd.C_below R0.out BV.out) _ | exact Kd.C_below R0.out BV.out); rintro e w' ⟨rfl, q, rfl⟩; simp only [h3, World.drewN_drewN]))
        go_ret
        exact ⟨by rw [E.out]; rfl, pw_below_drewN BX.out _⟩
end Go.Proofs.Ytlkgdfeeepiidaa.XWv
namespace Go.Proofs.Ytlkgdfeeepiidaa.XWv
open Go.RowKit Go.Proofs.Ytlkgdfeeepiidaa.All Go.Proofs.YtlkgdfeeepiidaaW.PrintWords Go.Proofs.YtlkgdfeeepiidaaW.PrintLast Go.Proofs.YtlkgdfeeepiidaaW.PrintMore
set_option linter.unusedVariables false
set_option linter.unusedSimpArgs false
theorem keep_far {w w1 : World} {g : Nat} {row : Option Nat} (h : KeepBut w w1 g row) {p : Addr} (hp : w.heap.size ≤ p.block) (u : Value) : KeepBut w (w1.setCell p u) g row :=
  ⟨by simpa [World.setCell] using h.1, fun i hi a b => (Below.heap_setCell w1 p u i (by omega)).trans (h.2 i hi a b)⟩
set_option maxRecDepth 100000 in
set_option maxHeartbeats 1600000 in
theorem to_calls (g : Nat) (l0 l1 l2 l3 l4 : List Int) (x y z x' y' z' : Int) (w0 w : World) (hI : IsS104 w0 w g l0 l1 l2 l3 l4 x y z) (hB : Below w0.heap.size w0 w) :
    Calls Try.prog 77 #[.pointer (some ⟨g, 0, none⟩), .int .i64 x', .int .i64 y', .int .i64 z'] w fun e w' => e = .returned (chunkV x x' y y' z z' 0) ∧ IsS104 w0 w' g l0 l1 l2 l3 l4 x' y' z' ∧ Below w0.heap.size w0 w' ∧ KeepBut w w' g none := by
  obtain ⟨A0, c0, A1, c1, A2, c2, A3, c3, A4, c4, hb, hg, hr0, hr1, hr2, hr3, hr4⟩ := hI
  have q5 := cellS104_5 hb
  have q6 := cellS104_6 hb
  have q7 := cellS104_7 hb
  have HR := Aside0.mk (And.intro hr0 (And.intro hr1 (And.intro hr2 (And.intro hr3 hr4))))
  have Hb := Aside0.mk hb
  have HB := Aside0.mk hB
  have hgw := Aside0.mk (blk_lt hb)
  have Hg := Aside0.mk hg
  clear hr0 hr1 hr2 hr3 hr4 hb hB hg
  go_enter Try.func77, Try.ntmps77
  go_upto_region 1 with (fail)
  have r5 := cell_alloc (Obj.cells #[.int .i64 0, .int .i64 0, .int .i64 0, .int .i64 0, .int .i64 0, .int .i64 0, .int .i64 0] 75) q5
  have r6 := cell_alloc (Obj.cells #[.int .i64 0, .int .i64 0, .int .i64 0, .int .i64 0, .int .i64 0, .int .i64 0, .int .i64 0] 75) q6
  have r7 := cell_alloc (Obj.cells #[.int .i64 0, .int .i64 0, .int .i64 0, .int .i64 0, .int .i64 0, .int .i64 0, .int .i64 0] 75) q7
  go_region_held3 (fun w' => w'.cell? ⟨g, 5, none⟩ = some (.int .i64 x) ∧ w'.cell? ⟨g, 6, none⟩ = some (.int .i64 y) ∧ w'.cell? ⟨g, 7, none⟩ = some (.int .i64 z))
    (((try dsimp only); (repeat' apply And.intro) <;> (first | assumption | (refine cell_alloc _ ?_; assumption) | (simp [*, World.cell?_alloc_some, World.cell?_setCell_far]; done))))
    (first | fail)
  clear r5 r6 r7
  have n1 : (w.alloc (Obj.cells #[Value.int IntKind.i64 0, Value.int IntKind.i64 0, Value.int IntKind.i64 0, Value.int IntKind.i64 0, Value.int IntKind.i64 0, Value.int IntKind.i64 0, Value.int IntKind.i64 0] 75)).heap.size = w.heap.size + 1 := by simp
  have hVg : ((w.alloc (Obj.cells #[Value.int IntKind.i64 0, Value.int IntKind.i64 0, Value.int IntKind.i64 0, Value.int IntKind.i64 0, Value.int IntKind.i64 0, Value.int IntKind.i64 0, Value.int IntKind.i64 0] 75)).alloc (Obj.cells #[Value.int IntKind.i64 x, Value.int IntKind.i64 x', Value.int IntKind.i64 y, Value.int IntKind.i64 y', Value.int IntKind.i64 z, Value.int IntKind.i64 z', Value.int IntKind.i64 0] 75)).drew.heap[g]? = _ := blk_alloc (blk_alloc Hb.out (Obj.cells #[Value.int IntKind.i64 0, Value.int IntKind.i64 0, Value.int IntKind.i64 0, Value.int IntKind.i64 0, Value.int IntKind.i64 0, Value.int IntKind.i64 0, Value.int IntKind.i64 0] 75)) (Obj.cells #[Value.int IntKind.i64 x, Value.int IntKind.i64 x', Value.int IntKind.i64 y, Value.int IntKind.i64 y', Value.int IntKind.i64 z, Value.int IntKind.i64 z', Value.int IntKind.i64 0] 75)
  have hV1 : ((w.alloc (Obj.cells #[Value.int IntKind.i64 0, Value.int IntKind.i64 0, Value.int IntKind.i64 0, Value.int IntKind.i64 0, Value.int IntKind.i64 0, Value.int IntKind.i64 0, Value.int IntKind.i64 0] 75)).alloc (Obj.cells #[Value.int IntKind.i64 x, Value.int IntKind.i64 x', Value.int IntKind.i64 y, Value.int IntKind.i64 y', Value.int IntKind.i64 z, Value.int IntKind.i64 z', Value.int IntKind.i64 0] 75)).drew.heap[w.heap.size]? = some (Obj.cells #[Value.int IntKind.i64 0, Value.int IntKind.i64 0, Value.int IntKind.i64 0, Value.int IntKind.i64 0, Value.int IntKind.i64 0, Value.int IntKind.i64 0, Value.int IntKind.i64 0] 75) := blk_alloc (heap_alloc_new w (Obj.cells #[Value.int IntKind.i64 0, Value.int IntKind.i64 0, Value.int IntKind.i64 0, Value.int IntKind.i64 0, Value.int IntKind.i64 0, Value.int IntKind.i64 0, Value.int IntKind.i64 0] 75)) (Obj.cells #[Value.int IntKind.i64 x, Value.int IntKind.i64 x', Value.int IntKind.i64 y, Value.int IntKind.i64 y', Value.int IntKind.i64 z, Value.int IntKind.i64 z', Value.int IntKind.i64 0] 75)
  have hV2 : ((w.alloc (Obj.cells #[Value.int IntKind.i64 0, Value.int IntKind.i64 0, Value.int IntKind.i64 0, Value.int IntKind.i64 0, Value.int IntKind.i64 0, Value.int IntKind.i64 0, Value.int IntKind.i64 0] 75)).alloc (Obj.cells #[Value.int IntKind.i64 x, Value.int IntKind.i64 x', Value.int IntKind.i64 y, Value.int IntKind.i64 y', Value.int IntKind.i64 z, Value.int IntKind.i64 z', Value.int IntKind.i64 0] 75)).drew.heap[w.heap.size + 1]? = some (Obj.cells #[Value.int IntKind.i64 x, Value.int IntKind.i64 x', Value.int IntKind.i64 y, Value.int IntKind.i64 y', Value.int IntKind.i64 z, Value.int IntKind.i64 z', Value.int IntKind.i64 0] 75) := by have h := heap_alloc_new (w.alloc (Obj.cells #[Value.int IntKind.i64 0, Value.int IntKind.i64 0, Value.int IntKind.i64 0, Value.int IntKind.i64 0, Value.int IntKind.i64 0, Value.int IntKind.i64 0, Value.int IntKind.i64 0] 75)) (Obj.cells #[Value.int IntKind.i64 x, Value.int IntKind.i64 x', Value.int IntKind.i64 y, Value.int IntKind.i64 y', Value.int IntKind.i64 z, Value.int IntKind.i64 z', Value.int IntKind.i64 0] 75); rw [n1] at h; exact h
  have BV := Aside0.mk (below_drew1 (below_alloc (below_alloc (Below.refl w.heap.size w) (Obj.cells #[Value.int IntKind.i64 0, Value.int IntKind.i64 0, Value.int IntKind.i64 0, Value.int IntKind.i64 0, Value.int IntKind.i64 0, Value.int IntKind.i64 0, Value.int IntKind.i64 0] 75)) (Obj.cells #[Value.int IntKind.i64 x, Value.int IntKind.i64 x', Value.int IntKind.i64 y, Value.int IntKind.i64 y', Value.int IntKind.i64 z, Value.int IntKind.i64 z', Value.int IntKind.i64 0] 75)))
  have hgn : g ≠ w.heap.size := Nat.ne_of_lt hgw.out
  have hgn1 : g ≠ w.heap.size + 1 := by have := hgw.out; omega
  clear n1
  generalize ((w.alloc (Obj.cells #[Value.int IntKind.i64 0, Value.int IntKind.i64 0, Value.int IntKind.i64 0, Value.int IntKind.i64 0, Value.int IntKind.i64 0, Value.int IntKind.i64 0, Value.int IntKind.i64 0] 75)).alloc (Obj.cells #[Value.int IntKind.i64 x, Value.int IntKind.i64 x', Value.int IntKind.i64 y, Value.int IntKind.i64 y', Value.int IntKind.i64 z, Value.int IntKind.i64 z', Value.int IntKind.i64 0] 75)).drew = V at *
  clear q5 q6 q7
  generalize hn : w.heap.size = n at hV1 hV2 hgn hgn1 ⊢
  have q5 := (blk_cell hVg 5).trans rfl
  have f5 := blk_frozen hVg 5
  have q6 := (blk_cell hVg 6).trans rfl
  have f6 := blk_frozen hVg 6
  have q7 := (blk_cell hVg 7).trans rfl
  have f7 := blk_frozen hVg 7
  go_upto_region 3 with (fail)
  have gU : Aside0 ((((V.setCell { block := g, off := 5 } (Value.int IntKind.i64 x')).setCell { block := g, off := 6 } (Value.int IntKind.i64 y')).setCell { block := g, off := 7 } (Value.int IntKind.i64 z')).heap[g]? = _) := ⟨blk_set (blk_set (blk_set hVg 5 _) 6 _) 7 _⟩
  have g1 : (((V.setCell { block := g, off := 5 } (Value.int IntKind.i64 x')).setCell { block := g, off := 6 } (Value.int IntKind.i64 y')).setCell { block := g, off := 7 } (Value.int IntKind.i64 z')).heap[n]? = _ := blk_far (blk_far (blk_far hV1 (Ne.symm hgn) _) (Ne.symm hgn) _) (Ne.symm hgn) _
  have g2 : (((V.setCell { block := g, off := 5 } (Value.int IntKind.i64 x')).setCell { block := g, off := 6 } (Value.int IntKind.i64 y')).setCell { block := g, off := 7 } (Value.int IntKind.i64 z')).heap[n + 1]? = _ := blk_far (blk_far (blk_far hV2 (Ne.symm hgn1) _) (Ne.symm hgn1) _) (Ne.symm hgn1) _
  have KU := Aside0.mk ((((KeepBut.of_below BV.out g none).set_ 5 (.int .i64 x')).set_ 6 (.int .i64 y')).set_ 7 (.int .i64 z'))
  have BU := Aside0.mk (Below.setCell (Below.setCell (Below.setCell (below_step HB.out BV.out) (p := ⟨g, 5, none⟩) Hg.out.1 (.int .i64 x')) (p := ⟨g, 6, none⟩) Hg.out.1 (.int .i64 y')) (p := ⟨g, 7, none⟩) Hg.out.1 (.int .i64 z'))
  clear hVg hV1 hV2 q5 q6 q7 f5 f6 f7
  generalize (((V.setCell { block := g, off := 5 } (Value.int IntKind.i64 x')).setCell { block := g, off := 6 } (Value.int IntKind.i64 y')).setCell { block := g, off := 7 } (Value.int IntKind.i64 z')) = U at *
  have a0 := (blk_cell g2 0).trans rfl
  have b0 := (blk_cell g1 0).trans rfl
  have a1 := (blk_cell g2 1).trans rfl
  have b1 := (blk_cell g1 1).trans rfl
  have a2 := (blk_cell g2 2).trans rfl
  have b2 := (blk_cell g1 2).trans rfl
  have a3 := (blk_cell g2 3).trans rfl
  have b3 := (blk_cell g1 3).trans rfl
  have a4 := (blk_cell g2 4).trans rfl
  have b4 := (blk_cell g1 4).trans rfl
  have a5 := (blk_cell g2 5).trans rfl
  have b5 := (blk_cell g1 5).trans rfl
  have a6 := (blk_cell g2 6).trans rfl
  have b6 := (blk_cell g1 6).trans rfl
  have d0 := blk_frozen g1 0
  have d1 := blk_frozen g1 1
  have d2 := blk_frozen g1 2
  have d3 := blk_frozen g1 3
  have d4 := blk_frozen g1 4
  have d5 := blk_frozen g1 5
  have d6 := blk_frozen g1 6
  go_wp2
  have hn0 : w0.heap.size ≤ n := by rw [← hn]; exact HB.out.size
  have zc : (((((((U.setCell { block := n, off := 0 } (Value.int IntKind.i64 x)).setCell { block := n, off := 1 } (Value.int IntKind.i64 x')).setCell { block := n, off := 2 } (Value.int IntKind.i64 y)).setCell { block := n, off := 3 } (Value.int IntKind.i64 y')).setCell { block := n, off := 4 } (Value.int IntKind.i64 z)).setCell { block := n, off := 5 } (Value.int IntKind.i64 z')).setCell { block := n, off := 6 } (Value.int IntKind.i64 0)).heap[n]? = some (.cells #[.int .i64 x, .int .i64 x', .int .i64 y, .int .i64 y', .int .i64 z, .int .i64 z', .int .i64 0] 75 (0, 0)) := (blk_set (blk_set (blk_set (blk_set (blk_set (blk_set (blk_set g1 0 (.int .i64 x)) 1 (.int .i64 x')) 2 (.int .i64 y)) 3 (.int .i64 y')) 4 (.int .i64 z)) 5 (.int .i64 z')) 6 (.int .i64 0))
  have zg := Aside0.mk (show (((((((U.setCell { block := n, off := 0 } (Value.int IntKind.i64 x)).setCell { block := n, off := 1 } (Value.int IntKind.i64 x')).setCell { block := n, off := 2 } (Value.int IntKind.i64 y)).setCell { block := n, off := 3 } (Value.int IntKind.i64 y')).setCell { block := n, off := 4 } (Value.int IntKind.i64 z)).setCell { block := n, off := 5 } (Value.int IntKind.i64 z')).setCell { block := n, off := 6 } (Value.int IntKind.i64 0)).heap[g]? = some (.cells #[.slice A0 l0.length c0, .slice A1 l1.length c1, .slice A2 l2.length c2, .slice A3 l3.length c3, .slice A4 l4.length c4, .int .i64 x', .int .i64 y', .int .i64 z'] 104 (0, 0)) from (blk_far (blk_far (blk_far (blk_far (blk_far (blk_far (blk_far gU.out (p := ⟨n, 0, none⟩) hgn (.int .i64 x)) (p := ⟨n, 1, none⟩) hgn (.int .i64 x')) (p := ⟨n, 2, none⟩) hgn (.int .i64 y)) (p := ⟨n, 3, none⟩) hgn (.int .i64 y')) (p := ⟨n, 4, none⟩) hgn (.int .i64 z)) (p := ⟨n, 5, none⟩) hgn (.int .i64 z')) (p := ⟨n, 6, none⟩) hgn (.int .i64 0)))
  have kz := Aside0.mk (show KeepBut w (((((((U.setCell { block := n, off := 0 } (Value.int IntKind.i64 x)).setCell { block := n, off := 1 } (Value.int IntKind.i64 x')).setCell { block := n, off := 2 } (Value.int IntKind.i64 y)).setCell { block := n, off := 3 } (Value.int IntKind.i64 y')).setCell { block := n, off := 4 } (Value.int IntKind.i64 z)).setCell { block := n, off := 5 } (Value.int IntKind.i64 z')).setCell { block := n, off := 6 } (Value.int IntKind.i64 0)) g none from (keep_far (keep_far (keep_far (keep_far (keep_far (keep_far (keep_far KU.out (p := ⟨n, 0, none⟩) (Nat.le_of_eq hn) (.int .i64 x)) (p := ⟨n, 1, none⟩) (Nat.le_of_eq hn) (.int .i64 x')) (p := ⟨n, 2, none⟩) (Nat.le_of_eq hn) (.int .i64 y)) (p := ⟨n, 3, none⟩) (Nat.le_of_eq hn) (.int .i64 y')) (p := ⟨n, 4, none⟩) (Nat.le_of_eq hn) (.int .i64 z)) (p := ⟨n, 5, none⟩) (Nat.le_of_eq hn) (.int .i64 z')) (p := ⟨n, 6, none⟩) (Nat.le_of_eq hn) (.int .i64 0)))
  have bz := Aside0.mk (show Below w0.heap.size w0 (((((((U.setCell { block := n, off := 0 } (Value.int IntKind.i64 x)).setCell { block := n, off := 1 } (Value.int IntKind.i64 x')).setCell { block := n, off := 2 } (Value.int IntKind.i64 y)).setCell { block := n, off := 3 } (Value.int IntKind.i64 y')).setCell { block := n, off := 4 } (Value.int IntKind.i64 z)).setCell { block := n, off := 5 } (Value.int IntKind.i64 z')).setCell { block := n, off := 6 } (Value.int IntKind.i64 0)) from (Below.setCell (Below.setCell (Below.setCell (Below.setCell (Below.setCell (Below.setCell (Below.setCell BU.out (p := ⟨n, 0, none⟩) hn0 (.int .i64 x)) (p := ⟨n, 1, none⟩) hn0 (.int .i64 x')) (p := ⟨n, 2, none⟩) hn0 (.int .i64 y)) (p := ⟨n, 3, none⟩) hn0 (.int .i64 y')) (p := ⟨n, 4, none⟩) hn0 (.int .i64 z)) (p := ⟨n, 5, none⟩) hn0 (.int .i64 z')) (p := ⟨n, 6, none⟩) hn0 (.int .i64 0)))
  clear a0 a1 a2 a3 a4 a5 a6 b0 b1 b2 b3 b4 b5 b6 d0 d1 d2 d3 d4 d5 d6 g1 g2 gU KU BU
  generalize (((((((U.setCell { block := n, off := 0 } (Value.int IntKind.i64 x)).setCell { block := n, off := 1 } (Value.int IntKind.i64 x')).setCell { block := n, off := 2 } (Value.int IntKind.i64 y)).setCell { block := n, off := 3 } (Value.int IntKind.i64 y')).setCell { block := n, off := 4 } (Value.int IntKind.i64 z)).setCell { block := n, off := 5 } (Value.int IntKind.i64 z')).setCell { block := n, off := 6 } (Value.int IntKind.i64 0)) = Z at *
  have a0 := (blk_cell zc 0).trans rfl
  have a1 := (blk_cell zc 1).trans rfl
  have a2 := (blk_cell zc 2).trans rfl
  have a3 := (blk_cell zc 3).trans rfl
  have a4 := (blk_cell zc 4).trans rfl
  have a5 := (blk_cell zc 5).trans rfl
  have a6 := (blk_cell zc 6).trans rfl
  (try simp only [Exit.inBlock, Exit.then])
  refine bodyPost_ret (results_cell_row (h := rfl) (hp := rfl) (hg := zc) (hu := Try.underlying75) (hd := rfl) (hi := by kernel_rfl)) rfl ?_
  obtain ⟨hr0, hr1, hr2, hr3, hr4⟩ := HR.out
  exact ⟨rfl, ⟨A0, c0, A1, c1, A2, c2, A3, c3, A4, c4, zg.out, Hg.out, hr0, hr1, hr2, hr3, hr4⟩, bz.out, kz.out⟩
end Go.Proofs.Ytlkgdfeeepiidaa.XWv
namespace Go.Proofs.Ytlkgdfeeepiidaa.All
open Go.RowKit Go.Proofs.Ytlkgdfeeepiidaa Go.Proofs.Ytlkgdfeeepiidaa.XWv Go.Proofs.YtlkgdfeeepiidaaW.PrintWords Go.Proofs.YtlkgdfeeepiidaaW.PrintLast Go.Proofs.YtlkgdfeeepiidaaW.PrintMore
set_option linter.unusedVariables false
set_option linter.unusedSimpArgs false
/-- The rounds: what is ahead, and the chunks that there are. -/
def weave_Chunks.l0 : Nat → List Int → List Int → List Int → List Int → List Int → Int → Int → Int → List S75 → Option (List S75)
  | 0, _, _, _, _, _, _, _, _, _ => none
  | k + 1, b, o, t, bo, bt, x, y, z, out =>
    if x < (b.length : Int) ∨ y < (o.length : Int) ∨ z < (t.length : Int) then
      if out.length < 1000000 then
        (weave_weaver_run.f k b o t bo bt x y z).bind fun q =>
          if 0 < q.1 then weave_Chunks.l0 k b o t bo bt (wrap64 (q.2.1 + q.1)) (wrap64 (q.2.2.1 + q.1)) (wrap64 (q.2.2.2 + q.1)) (out ++ [⟨⟨q.2.1, wrap64 (q.2.1 + q.1)⟩, ⟨q.2.2.1, wrap64 (q.2.2.1 + q.1)⟩, ⟨q.2.2.2, wrap64 (q.2.2.2 + q.1)⟩, 1⟩])
          else (weave_weaver_next.f k b o t bo bt q.2.1 q.2.2.1 q.2.2.2).bind fun p =>
            if (0 ≤ p.2.2.2.1 ∧ p.2.2.2.1 ≤ p.1 ∧ p.1 ≤ (b.length : Int)) ∧ (0 ≤ p.2.2.2.2.1 ∧ p.2.2.2.2.1 ≤ p.2.1 ∧ p.2.1 ≤ (o.length : Int)) ∧ (0 ≤ p.2.2.2.2.2 ∧ p.2.2.2.2.2 ≤ p.2.2.1 ∧ p.2.2.1 ≤ (t.length : Int)) then
              weave_Chunks.l0 k b o t bo bt p.1 p.2.1 p.2.2.1 (out ++ [⟨⟨p.2.2.2.1, p.1⟩, ⟨p.2.2.2.2.1, p.2.1⟩, ⟨p.2.2.2.2.2, p.2.2.1⟩, outc (XWv.part b p.2.2.2.1.toNat p.1.toNat) (XWv.part o p.2.2.2.2.1.toNat p.2.1.toNat) (XWv.part t p.2.2.2.2.2.toNat p.2.2.1.toNat)⟩])
            else none
      else none
    else some out
def weave_Chunks.f (k : Nat) (b o t : List Int) : Option (List S75) :=
  (weave_kept.f k b o).bind fun bo => (weave_kept.f k b t).bind fun bt => weave_Chunks.l0 k b o t bo bt 0 0 0 []
theorem info75 : (Try.prog.info? 75).map (fun i => (i.zero, i.size, i.bytes)) = some (some (.agg #[.int .i64 0, .int .i64 0, .int .i64 0, .int .i64 0, .int .i64 0, .int .i64 0, .int .i64 0]), 7, 56) := by kernel_rfl
theorem row_step {w0 W W' : World} {g : Nat} {f0 f1 f2 f3 f4 : List Int} {x y z : Int} {base : Nat} {v : Value} {out : List S75} (hI : IsS104 w0 W g f0 f1 f2 f3 f4 x y z) (HO : Kd.R k75 75 W base (fun _ => True) v out) (hk : KeepBut W W' g none) :
    Kd.R k75 75 W' base (fun _ => True) v out :=
  Kd.R_mono (Kd.R_keep (hI.apart HO (by decide)) hk (fun _ h => h.2)) (fun _ _ => trivial)
theorem row_new {W : World} {base : Nat} {v : Value} {out : List S75} (HO : Kd.R k75 75 W base (fun _ => True) v out) (o : Obj) : Kd.R k75 75 (W.alloc o) base (fun k => k ≠ W.heap.size) v out :=
  Kd.R_mono (Kd.R_alloc (Kd.R_bound HO) o) (fun k hk => Nat.ne_of_lt hk.2.2.1)
theorem row_stepP {w0 W W' : World} {g p : Nat} {f0 f1 f2 f3 f4 : List Int} {x y z : Int} {base : Nat} {v : Value} {out : List S75} (hI : IsS104 w0 W g f0 f1 f2 f3 f4 x y z) (HO : Kd.R k75 75 W base (fun k => k ≠ p) v out) (hk : KeepBut W W' g none) :
    Kd.R k75 75 W' base (fun k => k ≠ p) v out :=
  Kd.R_mono (Kd.R_keep (hI.apart HO (by decide)) hk (fun _ h => h.2)) (fun _ h => h.1)
set_option maxHeartbeats 1600000 in
set_option maxRecDepth 100000 in
theorem weave_Chunks.calls (k : Nat) (A0 : Option Addr) (c0 : Nat) (l0 : List Int) (A1 : Option Addr) (c1 : Nat) (l1 : List Int) (A2 : Option Addr) (c2 : Nat) (l2 : List Int) (r : List S75) (w : World)
    (hr0 : Kd.C (Kd.int .i64) w A0 l0.length l0) (hc0 : l0.length ≤ c0) (hr1 : Kd.C (Kd.int .i64) w A1 l1.length l1) (hc1 : l1.length ≤ c1) (hr2 : Kd.C (Kd.int .i64) w A2 l2.length l2) (hc2 : l2.length ≤ c2) (h : weave_Chunks.f k l0 l1 l2 = some r) :
    Calls Try.prog 51 #[.slice A0 l0.length c0, .slice A1 l1.length c1, .slice A2 l2.length c2] w fun e w' => ∃ v0_ : Value, e = .returned v0_ ∧ Kd.R k75 75 w' w.heap.size (fun _ => True) v0_ r ∧ Below w.heap.size w w' := by
  unfold weave_Chunks.f at h
  obtain ⟨bo, e1, h⟩ := Option.bind_eq_some_iff.1 h
  obtain ⟨bt, e2, h⟩ := Option.bind_eq_some_iff.1 h
  have HH := Aside0.mk h
  have HR0 := Aside0.mk hr0
  have HR1 := Aside0.mk hr1
  have HR2 := Aside0.mk hr2
  have HC0 := Aside0.mk hc0
  have HC1 := Aside0.mk hc1
  have HC2 := Aside0.mk hc2
  replace e1 := Aside0.mk e1
  replace e2 := Aside0.mk e2
  clear h hr0 hr1 hr2 hc0 hc1 hc2
  go_enter Try.func51, Try.ntmps51
  go_upto_region 1 with (fail)
  go_wp2_with (first
    | (go_at_call 75; with_reducible refine (weave_kept.calls k A0 _ l0 A1 _ l1 bo _ ?_ ?_ ?_ ?_ e1.out).mono ?_; exact HR0.out; exact HC0.out; exact HR1.out; exact HC1.out; rintro e w1 ⟨v1, rfl, ho1, hb1⟩; have HO1 := Aside0.mk ho1; have HB1 := Aside0.mk hb1; clear ho1 hb1; obtain ⟨Ab, cb, eb⟩ := Kd.R_slice HO1.out; subst eb)
    | (go_at_call 75; with_reducible refine (weave_kept.calls k A0 _ l0 A2 _ l2 bt _ ?_ ?_ ?_ ?_ e2.out).mono ?_; exact Kd.C_below HR0.out HB1.out; exact HC0.out; exact Kd.C_below HR2.out HB1.out; exact HC2.out; rintro e w2 ⟨v2, rfl, ho2, hb2⟩; have HO2 := Aside0.mk ho2; have HB2 := Aside0.mk hb2; clear ho2 hb2; obtain ⟨At, ct, et⟩ := Kd.R_slice HO2.out; subst et))
  have hb3 : Kd.C (Kd.int .i64) w2 Ab bo.length bo := Kd.C_below (Kd.R_reads' HO1.out).2.2 HB2.out
  have hb4 : Kd.C (Kd.int .i64) w2 At bt.length bt := (Kd.R_reads' HO2.out).2.2
  have HBw := Aside0.mk (below_step HB1.out HB2.out)
  have hS := Aside0.mk (IsS104.new w2 w2 A0 c0 A1 c1 A2 c2 Ab cb At ct l0 l1 l2 bo bt 0 0 0 (Below.refl _ _) ⟨HC0.out, HC1.out, HC2.out⟩ (Kd.C_below HR0.out HBw.out) (Kd.C_below HR1.out HBw.out) (Kd.C_below HR2.out HBw.out) hb3 hb4)
  clear hb3 hb4 e1 e2
  have hB3 := Aside0.mk (below_alloc (Below.refl w2.heap.size w2) (Obj.cells #[Value.slice A0 l0.length c0, Value.slice A1 l1.length c1, Value.slice A2 l2.length c2, Value.slice Ab bo.length cb, Value.slice At bt.length ct, Value.int IntKind.i64 0, Value.int IntKind.i64 0, Value.int IntKind.i64 0] 104))
  generalize w2.alloc (Obj.cells #[Value.slice A0 l0.length c0, Value.slice A1 l1.length c1, Value.slice A2 l2.length c2, Value.slice Ab bo.length cb, Value.slice At bt.length ct, Value.int IntKind.i64 0, Value.int IntKind.i64 0, Value.int IntKind.i64 0] 104) = w3 at hS hB3 ⊢
  have HB20 := Aside0.mk (rfl : w2.heap.size = w2.heap.size)
  obtain ⟨g, hg⟩ : ∃ g, g = w2.heap.size := ⟨_, rfl⟩
  have HG := Aside0.mk hg
  rw [← hg] at hS ⊢
  clear hg
  go_loopg [8] k (fun kq v8 w' => ∃ (out : List S75) (x y z : Int) (V8 : Value), v8 = V8 ∧ Aside0 (weave_Chunks.l0 kq l0 l1 l2 bo bt x y z out = some r) ∧ Aside0 (kq ≤ k) ∧ Aside0 (IsS104 w2 w' g l0 l1 l2 bo bt x y z) ∧ Aside0 (Kd.R k75 75 w' w2.heap.size (fun _ => True) V8 out) ∧ Aside0 (Below w2.heap.size w2 w'))
  case atStart => exact ⟨[], 0, 0, 0, _, rfl, HH, ⟨Nat.le_refl _⟩, hS, ⟨Kd.R_nil _ _ _ _ _⟩, hB3⟩
  case round =>
    clear hS hB3 HH
    obtain ⟨out, x, y, z, V8, hV8, HA, HK, HI, HO, HB⟩ := hrel
    replace hV8 := hV8.symm
    subst hV8
    cases gk with
    | zero => exact absurd HA.out (by simp [weave_Chunks.l0])
    | succ k1 =>
      have H := HA.out
      clear HA
      rw [weave_Chunks.l0] at H
      obtain ⟨A0', c0', A1', c1', A2', c2', A3', c3', A4', c4', hb, hgg, hr0, hr1, hr2, hr3, hr4⟩ := HI.out
      have q5 := cellS104_5 hb
      have q6 := cellS104_6 hb
      have q7 := cellS104_7 hb
      clear hr0 hr1 hr2 hr3 hr4 hgg hb
      go_upto_region 3 with (fail)
      go_cut [47] (fun v47 wc => ∃ b : Bool, v47 = .bool b ∧ Aside0 (b = true ↔ (x < (l0.length : Int) ∨ y < (l1.length : Int) ∨ z < (l2.length : Int))) ∧ Aside0 (IsS104 w2 wc g l0 l1 l2 bo bt x y z) ∧ Aside0 (Kd.R k75 75 wc w2.heap.size (fun _ => True) V8 out) ∧ Aside0 (Below w2.heap.size w2 wc))
      case first =>
        by_cases d1 : x < (l0.length : Int)
        · have d1b : decide (x < (l0.length : Int)) = true := decide_eq_true d1
          have F := Aside0.mk (show (x < (l0.length : Int) ∨ y < (l1.length : Int) ∨ z < (l2.length : Int)) from Or.inl d1)
          clear d1
          go_wp2
          go_meet
          case rel => exact ⟨true, rfl, ⟨⟨fun _ => F.out, fun _ => rfl⟩⟩, HI, HO, HB⟩
        · have d1b : decide (x < (l0.length : Int)) = false := decide_eq_false d1
          by_cases d2 : y < (l1.length : Int)
          · have d2b : decide (y < (l1.length : Int)) = true := decide_eq_true d2
            have F := Aside0.mk (show (x < (l0.length : Int) ∨ y < (l1.length : Int) ∨ z < (l2.length : Int)) from Or.inr (Or.inl d2))
            clear d1 d2
            go_wp2
            go_meet
            case rel => exact ⟨true, rfl, ⟨⟨fun _ => F.out, fun _ => rfl⟩⟩, HI, HO, HB⟩
          · have d2b : decide (y < (l1.length : Int)) = false := decide_eq_false d2
            by_cases d3 : z < (l2.length : Int)
            · have d3b : decide (z < (l2.length : Int)) = true := decide_eq_true d3
              have F := Aside0.mk (show (x < (l0.length : Int) ∨ y < (l1.length : Int) ∨ z < (l2.length : Int)) from Or.inr (Or.inr d3))
              clear d1 d2 d3
              go_wp2
              go_meet
              case rel => exact ⟨true, rfl, ⟨⟨fun _ => F.out, fun _ => rfl⟩⟩, HI, HO, HB⟩
            · have d3b : decide (z < (l2.length : Int)) = false := decide_eq_false d3
              have F := Aside0.mk (show ¬ (x < (l0.length : Int) ∨ y < (l1.length : Int) ∨ z < (l2.length : Int)) from by rintro (h | h | h); exact d1 h; exact d2 h; exact d3 h)
              clear d1 d2 d3
              go_wp2
              go_meet
              case rel => exact ⟨false, rfl, ⟨⟨fun h => (Bool.false_ne_true h).elim, fun h => absurd h F.out⟩⟩, HI, HO, HB⟩
      case rest =>
        clear HI HO HB q5 q6 q7
        obtain ⟨b, rfl, F, HI, HO, HB⟩ := hcut
        cases b with
        | false =>
          rw [if_neg (fun h => Bool.false_ne_true (F.out.2 h))] at H
          obtain rfl := Option.some.inj H
          go_wp2
          go_ret
          exact ⟨_, rfl, Kd.R_lower HO.out HBw.out.size, below_step HBw.out HB.out⟩
        | true =>
          rw [if_pos (F.out.1 rfl)] at H
          by_cases hl : out.length < 1000000
          · rw [if_pos hl] at H
            obtain ⟨⟨n, x2, y2, z2⟩, eq, H⟩ := Option.bind_eq_some_iff.1 H
            have EQ := Aside0.mk eq
            have HL := Aside0.mk hl
            have H' := Aside0.mk H
            clear H eq hl F
            by_cases hn : 0 < n
            · have hnb : decide (0 < n) = true := decide_eq_true hn
              have HN := Aside0.mk (show weave_Chunks.l0 k1 l0 l1 l2 bo bt (wrap64 (x2 + n)) (wrap64 (y2 + n)) (wrap64 (z2 + n)) (out ++ [⟨⟨x2, wrap64 (x2 + n)⟩, ⟨y2, wrap64 (y2 + n)⟩, ⟨z2, wrap64 (z2 + n)⟩, 1⟩]) = some r from by have h := H'.out; rw [if_pos hn] at h; exact h)
              clear H' hn
              go_upto_region 6 with (first | (go_at_call 76; with_reducible refine (weave_weaver_run.calls k1 g _ _ _ _ _ x y z n x2 y2 z2 w2 _ HI.out HB.out EQ.out).mono ?_; rintro e w4 ⟨rfl, hI4, hB4, hK4⟩; have n0_ := Aside0.mk (row_step HI.out HO.out hK4); have n1_ := Aside0.mk hI4; have n2_ := Aside0.mk hB4; clear HO HI HB hI4 hB4 hK4; have HO := n0_; have HI := n1_; have HB := n2_; clear n0_ n1_ n2_))
              go_cut [10] (fun v10 wc => ∃ p : Nat, v10 = .pointer (some ⟨p, 0, none⟩) ∧ Aside0 (wc.heap[p]? = some (.cells #[.int .i64 x2, .int .i64 (wrap64 (x2 + n)), .int .i64 y2, .int .i64 (wrap64 (y2 + n)), .int .i64 z2, .int .i64 (wrap64 (z2 + n)), .int .i64 0] 75 (0, 0))) ∧ Aside0 (IsS104 w2 wc g l0 l1 l2 bo bt (wrap64 (x2 + n)) (wrap64 (y2 + n)) (wrap64 (z2 + n))) ∧ Aside0 (Kd.R k75 75 wc w2.heap.size (fun k => k ≠ p) V8 out) ∧ Aside0 (Below w2.heap.size w2 wc) ∧ Aside0 (w2.heap.size ≤ p))
              case first =>
                obtain ⟨A0', c0', A1', c1', A2', c2', A3', c3', A4', c4', hb, hgg, hr0, hr1, hr2, hr3, hr4⟩ := HI.out
                have q5 : w4.drew.cell? ⟨g, 5, none⟩ = some (.int .i64 x2) := cellS104_5 hb
                have q6 : w4.drew.cell? ⟨g, 6, none⟩ = some (.int .i64 y2) := cellS104_6 hb
                have q7 : w4.drew.cell? ⟨g, 7, none⟩ = some (.int .i64 z2) := cellS104_7 hb
                clear hr0 hr1 hr2 hr3 hr4 hgg hb
                refine start_ (n := 22) (S := fun w' => w'.cell? ⟨g, 5, none⟩ = some (.int .i64 x2) ∧ w'.cell? ⟨g, 6, none⟩ = some (.int .i64 y2) ∧ w'.cell? ⟨g, 7, none⟩ = some (.int .i64 z2)) (ds := [19, 21]) #[false, false, false, false, false, false, false, false, false, false, false, false, false, false, false, false, false, false, false, false, false, false] (by kernel_rfl) rfl rfl ⟨q5, q6, q7⟩ (fun hHeld => ?_)
                have HI5 : Aside0 (IsS104 w2 w4.drew g l0 l1 l2 bo bt x2 y2 z2) := ⟨HI.out.drew⟩
                have HO5 : Aside0 (Kd.R k75 75 w4.drew w2.heap.size (fun _ => True) V8 out) := ⟨Kd.R_drew HO.out⟩
                have HB5 : Aside0 (Below w2.heap.size w2 w4.drew) := ⟨below_drew1 HB.out⟩
                clear HI HO HB
                generalize w4.drew = w5 at HI5 HO5 HB5 hHeld q5 q6 q7 ⊢
                refine pure_ (i := 0) (N := some 52) (v := ?_) (a' := ?_) #[true, false, false, false, false, false, false, false, false, false, false, false, false, false, false, false, false, false, false, false, false, false] rfl rfl (by kernel_rfl) (fun _ _ _ h => h) (Or.inl ⟨by rfl, ?_⟩) ?_ ?_
                rotate_left
                · intro w'
                  go_simp
                  with_reducible rfl
                rotate_left
                · simp only [Act.put, List.setIfInBounds_toArray, List.set_cons_zero, List.set_cons_succ, i64_w, i32_w]
                  rfl
                refine pure_ (i := 1) (N := some 53) (v := ?_) (a' := ?_) #[true, true, false, false, false, false, false, false, false, false, false, false, false, false, false, false, false, false, false, false, false, false] rfl rfl (by kernel_rfl) (fun _ _ _ h => h) (Or.inl ⟨by rfl, ?_⟩) ?_ ?_
                rotate_left
                · intro w'
                  go_simp
                  with_reducible rfl
                rotate_left
                · simp only [Act.put, List.setIfInBounds_toArray, List.set_cons_zero, List.set_cons_succ, i64_w, i32_w]
                  rfl
                refine pure_ (i := 2) (N := some 54) (v := ?_) (a' := ?_) #[true, true, true, false, false, false, false, false, false, false, false, false, false, false, false, false, false, false, false, false, false, false] rfl rfl (by kernel_rfl) (fun _ _ _ h => h) (Or.inl ⟨by rfl, ?_⟩) ?_ ?_
                rotate_left
                · intro w'
                  go_simp
                  with_reducible rfl
                rotate_left
                · simp only [Act.put, List.setIfInBounds_toArray, List.set_cons_zero, List.set_cons_succ, i64_w, i32_w]
                  rfl
                refine pure_ (i := 3) (N := some 55) (v := ?_) (a' := ?_) #[true, true, true, true, false, false, false, false, false, false, false, false, false, false, false, false, false, false, false, false, false, false] rfl rfl (by kernel_rfl) (fun _ _ _ h => h) (Or.inl ⟨by rfl, ?_⟩) ?_ ?_
                rotate_left
                · intro w'
                  go_simp
                  with_reducible rfl
                rotate_left
                · simp only [Act.put, List.setIfInBounds_toArray, List.set_cons_zero, List.set_cons_succ, i64_w, i32_w]
                  rfl
                refine take_ (i := 4) (N := some 56) (v := ?_) (a' := ?_) #[true, true, true, true, true, false, false, false, false, false, false, false, false, false, false, false, false, false, false, false, false, false] rfl rfl (by kernel_rfl) (fun _ _ _ h => h) (Or.inl ⟨by rfl, ?_⟩) hHeld ?_ ?_
                rotate_left
                · rintro w' ⟨s0, s1, s2⟩
                  go_simp
                  with_reducible rfl
                rotate_left
                · simp only [Act.put, List.setIfInBounds_toArray, List.set_cons_zero, List.set_cons_succ, i64_w, i32_w]
                  rfl
                refine pure_ (i := 5) (N := some 57) (v := ?_) (a' := ?_) #[true, true, true, true, true, true, false, false, false, false, false, false, false, false, false, false, false, false, false, false, false, false] rfl rfl (by kernel_rfl) (fun _ _ _ h => h) (Or.inl ⟨by rfl, ?_⟩) ?_ ?_
                rotate_left
                · intro w'
                  go_simp
                  with_reducible rfl
                rotate_left
                · simp only [Act.put, List.setIfInBounds_toArray, List.set_cons_zero, List.set_cons_succ, i64_w, i32_w]
                  rfl
                refine pure_ (i := 6) (N := some 58) (v := ?_) (a' := ?_) #[true, true, true, true, true, true, true, false, false, false, false, false, false, false, false, false, false, false, false, false, false, false] rfl rfl (by kernel_rfl) (fun _ _ _ h => h) (Or.inl ⟨by rfl, ?_⟩) ?_ ?_
                rotate_left
                · intro w'
                  go_simp
                  with_reducible rfl
                rotate_left
                · simp only [Act.put, List.setIfInBounds_toArray, List.set_cons_zero, List.set_cons_succ, i64_w, i32_w]
                  rfl
                refine pure_ (i := 7) (N := some 59) (v := ?_) (a' := ?_) #[true, true, true, true, true, true, true, true, false, false, false, false, false, false, false, false, false, false, false, false, false, false] rfl rfl (by kernel_rfl) (fun _ _ _ h => h) (Or.inl ⟨by rfl, ?_⟩) ?_ ?_
                rotate_left
                · intro w'
                  go_simp
                  with_reducible rfl
                rotate_left
                · simp only [Act.put, List.setIfInBounds_toArray, List.set_cons_zero, List.set_cons_succ, i64_w, i32_w]
                  rfl
                refine pure_ (i := 8) (N := some 60) (v := ?_) (a' := ?_) #[true, true, true, true, true, true, true, true, true, false, false, false, false, false, false, false, false, false, false, false, false, false] rfl rfl (by kernel_rfl) (fun _ _ _ h => h) (Or.inl ⟨by rfl, ?_⟩) ?_ ?_
                rotate_left
                · intro w'
                  go_simp
                  with_reducible rfl
                rotate_left
                · simp only [Act.put, List.setIfInBounds_toArray, List.set_cons_zero, List.set_cons_succ, i64_w, i32_w]
                  rfl
                refine pure_ (i := 9) (N := some 61) (v := ?_) (a' := ?_) #[true, true, true, true, true, true, true, true, true, true, false, false, false, false, false, false, false, false, false, false, false, false] rfl rfl (by kernel_rfl) (fun _ _ _ h => h) (Or.inl ⟨by rfl, ?_⟩) ?_ ?_
                rotate_left
                · intro w'
                  go_simp
                  with_reducible rfl
                rotate_left
                · simp only [Act.put, List.setIfInBounds_toArray, List.set_cons_zero, List.set_cons_succ, i64_w, i32_w]
                  rfl
                refine take_ (i := 10) (N := some 62) (v := ?_) (a' := ?_) #[true, true, true, true, true, true, true, true, true, true, true, false, false, false, false, false, false, false, false, false, false, false] rfl rfl (by kernel_rfl) (fun _ _ _ h => h) (Or.inl ⟨by rfl, ?_⟩) hHeld ?_ ?_
                rotate_left
                · rintro w' ⟨s0, s1, s2⟩
                  go_simp
                  with_reducible rfl
                rotate_left
                · simp only [Act.put, List.setIfInBounds_toArray, List.set_cons_zero, List.set_cons_succ, i64_w, i32_w]
                  rfl
                refine pure_ (i := 11) (N := some 63) (v := ?_) (a' := ?_) #[true, true, true, true, true, true, true, true, true, true, true, true, false, false, false, false, false, false, false, false, false, false] rfl rfl (by kernel_rfl) (fun _ _ _ h => h) (Or.inl ⟨by rfl, ?_⟩) ?_ ?_
                rotate_left
                · intro w'
                  go_simp
                  with_reducible rfl
                rotate_left
                · simp only [Act.put, List.setIfInBounds_toArray, List.set_cons_zero, List.set_cons_succ, i64_w, i32_w]
                  rfl
                refine pure_ (i := 12) (N := some 64) (v := ?_) (a' := ?_) #[true, true, true, true, true, true, true, true, true, true, true, true, true, false, false, false, false, false, false, false, false, false] rfl rfl (by kernel_rfl) (fun _ _ _ h => h) (Or.inl ⟨by rfl, ?_⟩) ?_ ?_
                rotate_left
                · intro w'
                  go_simp
                  with_reducible rfl
                rotate_left
                · simp only [Act.put, List.setIfInBounds_toArray, List.set_cons_zero, List.set_cons_succ, i64_w, i32_w]
                  rfl
                refine pure_ (i := 13) (N := some 65) (v := ?_) (a' := ?_) #[true, true, true, true, true, true, true, true, true, true, true, true, true, true, false, false, false, false, false, false, false, false] rfl rfl (by kernel_rfl) (fun _ _ _ h => h) (Or.inl ⟨by rfl, ?_⟩) ?_ ?_
                rotate_left
                · intro w'
                  go_simp
                  with_reducible rfl
                rotate_left
                · simp only [Act.put, List.setIfInBounds_toArray, List.set_cons_zero, List.set_cons_succ, i64_w, i32_w]
                  rfl
                refine pure_ (i := 14) (N := some 66) (v := ?_) (a' := ?_) #[true, true, true, true, true, true, true, true, true, true, true, true, true, true, true, false, false, false, false, false, false, false] rfl rfl (by kernel_rfl) (fun _ _ _ h => h) (Or.inl ⟨by rfl, ?_⟩) ?_ ?_
                rotate_left
                · intro w'
                  go_simp
                  with_reducible rfl
                rotate_left
                · simp only [Act.put, List.setIfInBounds_toArray, List.set_cons_zero, List.set_cons_succ, i64_w, i32_w]
                  rfl
                refine pure_ (i := 15) (N := some 67) (v := ?_) (a' := ?_) #[true, true, true, true, true, true, true, true, true, true, true, true, true, true, true, true, false, false, false, false, false, false] rfl rfl (by kernel_rfl) (fun _ _ _ h => h) (Or.inl ⟨by rfl, ?_⟩) ?_ ?_
                rotate_left
                · intro w'
                  go_simp
                  with_reducible rfl
                rotate_left
                · simp only [Act.put, List.setIfInBounds_toArray, List.set_cons_zero, List.set_cons_succ, i64_w, i32_w]
                  rfl
                refine take_ (i := 16) (N := some 68) (v := ?_) (a' := ?_) #[true, true, true, true, true, true, true, true, true, true, true, true, true, true, true, true, true, false, false, false, false, false] rfl rfl (by kernel_rfl) (fun _ _ _ h => h) (Or.inl ⟨by rfl, ?_⟩) hHeld ?_ ?_
                rotate_left
                · rintro w' ⟨s0, s1, s2⟩
                  go_simp
                  with_reducible rfl
                rotate_left
                · simp only [Act.put, List.setIfInBounds_toArray, List.set_cons_zero, List.set_cons_succ, i64_w, i32_w]
                  rfl
                refine pure_ (i := 17) (N := some 69) (v := ?_) (a' := ?_) #[true, true, true, true, true, true, true, true, true, true, true, true, true, true, true, true, true, true, false, false, false, false] rfl rfl (by kernel_rfl) (fun _ _ _ h => h) (Or.inl ⟨by rfl, ?_⟩) ?_ ?_
                rotate_left
                · intro w'
                  go_simp
                  with_reducible rfl
                rotate_left
                · simp only [Act.put, List.setIfInBounds_toArray, List.set_cons_zero, List.set_cons_succ, i64_w, i32_w]
                  rfl
                refine pure_ (i := 18) (N := some 70) (v := ?_) (a' := ?_) #[true, true, true, true, true, true, true, true, true, true, true, true, true, true, true, true, true, true, true, false, false, false] rfl rfl (by kernel_rfl) (fun _ _ _ h => h) (Or.inl ⟨by rfl, ?_⟩) ?_ ?_
                rotate_left
                · intro w'
                  go_simp
                  with_reducible rfl
                rotate_left
                · simp only [Act.put, List.setIfInBounds_toArray, List.set_cons_zero, List.set_cons_succ, i64_w, i32_w]
                  rfl
                refine two_keep (i := 19) (j := 20) (Ni := some 71) (Nj := some 10) #[true, true, true, true, true, true, true, true, true, true, true, true, true, true, true, true, true, true, true, true, false, false] #[true, true, true, true, true, true, true, true, true, true, true, true, true, true, true, true, true, true, true, false, true, false] rfl rfl rfl rfl (by kernel_rfl) (by decide) (fun K hK => ?_) (fun K hK => ?_)
                ·
                  refine goes_ (f := 77) Try.func77 (by kernel_rfl) rfl #[.pointer (some ⟨g, 0, none⟩), .int .i64 (wrap64 (x2 + n)), .int .i64 (wrap64 (y2 + n)), .int .i64 (wrap64 (z2 + n))] (by rfl) rfl rfl (by (try simp only [List.map_toArray, List.map_cons, List.map_nil]); rfl) ?_
                  refine (to_calls g _ _ _ _ _ x2 y2 z2 (wrap64 (x2 + n)) (wrap64 (y2 + n)) (wrap64 (z2 + n)) w2 _ HI5.out HB5.out).mono ?_
                  rintro e w6 ⟨rfl, hI6, hB6, hK6⟩
                  refine ⟨_, rfl, ?_⟩
                  refine hK.out _ _ ?_
                  clear hK K
                  have hO6 := row_step HI5.out HO5.out hK6
                  refine one_keep (i := 20) (N := some 10) #[true, true, true, true, true, true, true, true, true, true, true, true, true, true, true, true, true, true, true, true, true, false] rfl rfl (by kernel_rfl) (fun K hK => ?_)
                  refine value_ (w1 := w6.alloc (Obj.cells #[.int .i64 0, .int .i64 0, .int .i64 0, .int .i64 0, .int .i64 0, .int .i64 0, .int .i64 0] 75)) (v := .pointer (some ⟨w6.heap.size, 0, none⟩)) (by rfl) rfl ?_ ?_
                  · go_simp
                    try rfl
                  refine hK.out _ _ (fun hS => ⟨cell_alloc _ hS.1, cell_alloc _ hS.2.1, cell_alloc _ hS.2.2⟩) ?_
                  clear hK K
                  have hV := heap_alloc_new w6 (Obj.cells #[.int .i64 0, .int .i64 0, .int .i64 0, .int .i64 0, .int .i64 0, .int .i64 0, .int .i64 0] 75)
                  have hIV := Aside0.mk (hI6.alloc (Obj.cells #[.int .i64 0, .int .i64 0, .int .i64 0, .int .i64 0, .int .i64 0, .int .i64 0, .int .i64 0] 75))
                  have hOV := Aside0.mk (row_new hO6 (Obj.cells #[.int .i64 0, .int .i64 0, .int .i64 0, .int .i64 0, .int .i64 0, .int .i64 0, .int .i64 0] 75))
                  have hBV := Aside0.mk (below_alloc hB6 (Obj.cells #[.int .i64 0, .int .i64 0, .int .i64 0, .int .i64 0, .int .i64 0, .int .i64 0, .int .i64 0] 75))
                  have hp0 := Aside0.mk hB6.size
                  have hgp : g ≠ w6.heap.size := Nat.ne_of_lt hI6.lt
                  generalize w6.alloc (Obj.cells #[.int .i64 0, .int .i64 0, .int .i64 0, .int .i64 0, .int .i64 0, .int .i64 0, .int .i64 0] 75) = V at hV hIV hOV hBV ⊢
                  generalize w6.heap.size = p at hV hOV hp0 hgp ⊢
                  refine last_ (i := 21) (N := none) #[true, true, true, true, true, true, true, true, true, true, true, true, true, true, true, true, true, true, true, true, true, true] rfl rfl (by kernel_rfl) (by decide) (fun K hK => ?_)
                  have c0 : V.cell? ⟨p, 0, none⟩ = some (.int .i64 0) := (blk_cell hV 0).trans rfl
                  have f0 : V.frozen? ⟨p, 0, none⟩ = false := blk_frozen hV 0
                  have c1 : V.cell? ⟨p, 1, none⟩ = some (.int .i64 0) := (blk_cell hV 1).trans rfl
                  have f1 : V.frozen? ⟨p, 1, none⟩ = false := blk_frozen hV 1
                  have c2 : V.cell? ⟨p, 2, none⟩ = some (.int .i64 0) := (blk_cell hV 2).trans rfl
                  have f2 : V.frozen? ⟨p, 2, none⟩ = false := blk_frozen hV 2
                  have c3 : V.cell? ⟨p, 3, none⟩ = some (.int .i64 0) := (blk_cell hV 3).trans rfl
                  have f3 : V.frozen? ⟨p, 3, none⟩ = false := blk_frozen hV 3
                  have c4 : V.cell? ⟨p, 4, none⟩ = some (.int .i64 0) := (blk_cell hV 4).trans rfl
                  have f4 : V.frozen? ⟨p, 4, none⟩ = false := blk_frozen hV 4
                  have c5 : V.cell? ⟨p, 5, none⟩ = some (.int .i64 0) := (blk_cell hV 5).trans rfl
                  have f5 : V.frozen? ⟨p, 5, none⟩ = false := blk_frozen hV 5
                  have c6 : V.cell? ⟨p, 6, none⟩ = some (.int .i64 0) := (blk_cell hV 6).trans rfl
                  have f6 : V.frozen? ⟨p, 6, none⟩ = false := blk_frozen hV 6
                  refine skip_ (w1 := (((((((V.setCell ⟨p, 0, none⟩ (.int .i64 x2)).setCell ⟨p, 1, none⟩ (.int .i64 (wrap64 (x2 + n)))).setCell ⟨p, 2, none⟩ (.int .i64 y2)).setCell ⟨p, 3, none⟩ (.int .i64 (wrap64 (y2 + n)))).setCell ⟨p, 4, none⟩ (.int .i64 z2)).setCell ⟨p, 5, none⟩ (.int .i64 (wrap64 (z2 + n)))).setCell ⟨p, 6, none⟩ (.int .i64 0))) (by rfl) rfl ?_ ?_
                  · simp only [chunkV]
                    go_simp
                  refine hK.out _ _ ?_
                  clear hK K
                  refine done_ (by kernel_rfl) ?_
                  have HH1 := Aside0.mk (show (((((((V.setCell ⟨p, 0, none⟩ (.int .i64 x2)).setCell ⟨p, 1, none⟩ (.int .i64 (wrap64 (x2 + n)))).setCell ⟨p, 2, none⟩ (.int .i64 y2)).setCell ⟨p, 3, none⟩ (.int .i64 (wrap64 (y2 + n)))).setCell ⟨p, 4, none⟩ (.int .i64 z2)).setCell ⟨p, 5, none⟩ (.int .i64 (wrap64 (z2 + n)))).setCell ⟨p, 6, none⟩ (.int .i64 0)).heap[p]? = some (.cells #[.int .i64 x2, .int .i64 (wrap64 (x2 + n)), .int .i64 y2, .int .i64 (wrap64 (y2 + n)), .int .i64 z2, .int .i64 (wrap64 (z2 + n)), .int .i64 0] 75 (0, 0)) from (blk_set (blk_set (blk_set (blk_set (blk_set (blk_set (blk_set hV 0 (.int .i64 x2)) 1 (.int .i64 (wrap64 (x2 + n)))) 2 (.int .i64 y2)) 3 (.int .i64 (wrap64 (y2 + n)))) 4 (.int .i64 z2)) 5 (.int .i64 (wrap64 (z2 + n)))) 6 (.int .i64 0)))
                  have HH2 := Aside0.mk (show IsS104 w2 (((((((V.setCell ⟨p, 0, none⟩ (.int .i64 x2)).setCell ⟨p, 1, none⟩ (.int .i64 (wrap64 (x2 + n)))).setCell ⟨p, 2, none⟩ (.int .i64 y2)).setCell ⟨p, 3, none⟩ (.int .i64 (wrap64 (y2 + n)))).setCell ⟨p, 4, none⟩ (.int .i64 z2)).setCell ⟨p, 5, none⟩ (.int .i64 (wrap64 (z2 + n)))).setCell ⟨p, 6, none⟩ (.int .i64 0)) g l0 l1 l2 bo bt (wrap64 (x2 + n)) (wrap64 (y2 + n)) (wrap64 (z2 + n)) from (IsS104.far (IsS104.far (IsS104.far (IsS104.far (IsS104.far (IsS104.far (IsS104.far hIV.out (p := ⟨p, 0, none⟩) hgp (.int .i64 x2)) (p := ⟨p, 1, none⟩) hgp (.int .i64 (wrap64 (x2 + n)))) (p := ⟨p, 2, none⟩) hgp (.int .i64 y2)) (p := ⟨p, 3, none⟩) hgp (.int .i64 (wrap64 (y2 + n)))) (p := ⟨p, 4, none⟩) hgp (.int .i64 z2)) (p := ⟨p, 5, none⟩) hgp (.int .i64 (wrap64 (z2 + n)))) (p := ⟨p, 6, none⟩) hgp (.int .i64 0)))
                  have HH3 := Aside0.mk (show Kd.R k75 75 (((((((V.setCell ⟨p, 0, none⟩ (.int .i64 x2)).setCell ⟨p, 1, none⟩ (.int .i64 (wrap64 (x2 + n)))).setCell ⟨p, 2, none⟩ (.int .i64 y2)).setCell ⟨p, 3, none⟩ (.int .i64 (wrap64 (y2 + n)))).setCell ⟨p, 4, none⟩ (.int .i64 z2)).setCell ⟨p, 5, none⟩ (.int .i64 (wrap64 (z2 + n)))).setCell ⟨p, 6, none⟩ (.int .i64 0)) w2.heap.size (fun k => k ≠ p) V8 out from Kd.R_keep hOV.out (KeepBut.set_ (KeepBut.set_ (KeepBut.set_ (KeepBut.set_ (KeepBut.set_ (KeepBut.set_ (KeepBut.set_ (KeepBut.refl V p none) 0 (.int .i64 x2)) 1 (.int .i64 (wrap64 (x2 + n)))) 2 (.int .i64 y2)) 3 (.int .i64 (wrap64 (y2 + n)))) 4 (.int .i64 z2)) 5 (.int .i64 (wrap64 (z2 + n)))) 6 (.int .i64 0)) (fun _ h => h))
                  have HH4 := Aside0.mk (show Below w2.heap.size w2 (((((((V.setCell ⟨p, 0, none⟩ (.int .i64 x2)).setCell ⟨p, 1, none⟩ (.int .i64 (wrap64 (x2 + n)))).setCell ⟨p, 2, none⟩ (.int .i64 y2)).setCell ⟨p, 3, none⟩ (.int .i64 (wrap64 (y2 + n)))).setCell ⟨p, 4, none⟩ (.int .i64 z2)).setCell ⟨p, 5, none⟩ (.int .i64 (wrap64 (z2 + n)))).setCell ⟨p, 6, none⟩ (.int .i64 0)) from (Below.setCell (Below.setCell (Below.setCell (Below.setCell (Below.setCell (Below.setCell (Below.setCell hBV.out (p := ⟨p, 0, none⟩) hp0.out (.int .i64 x2)) (p := ⟨p, 1, none⟩) hp0.out (.int .i64 (wrap64 (x2 + n)))) (p := ⟨p, 2, none⟩) hp0.out (.int .i64 y2)) (p := ⟨p, 3, none⟩) hp0.out (.int .i64 (wrap64 (y2 + n)))) (p := ⟨p, 4, none⟩) hp0.out (.int .i64 z2)) (p := ⟨p, 5, none⟩) hp0.out (.int .i64 (wrap64 (z2 + n)))) (p := ⟨p, 6, none⟩) hp0.out (.int .i64 0)))
                  clear c0 f0 c1 f1 c2 f2 c3 f3 c4 f4 c5 f5 c6 f6 hV
                  generalize (((((((V.setCell ⟨p, 0, none⟩ (.int .i64 x2)).setCell ⟨p, 1, none⟩ (.int .i64 (wrap64 (x2 + n)))).setCell ⟨p, 2, none⟩ (.int .i64 y2)).setCell ⟨p, 3, none⟩ (.int .i64 (wrap64 (y2 + n)))).setCell ⟨p, 4, none⟩ (.int .i64 z2)).setCell ⟨p, 5, none⟩ (.int .i64 (wrap64 (z2 + n)))).setCell ⟨p, 6, none⟩ (.int .i64 0)) = U at HH1 HH2 HH3 HH4 ⊢
                  simp only [Act.put, List.setIfInBounds_toArray, List.set_cons_zero, List.set_cons_succ]
                  go_wp2
                  go_meet
                  case rel => exact ⟨p, rfl, HH1, HH2, HH3, HH4, hp0⟩
                ·
                  refine value_ (w1 := w5.alloc (Obj.cells #[.int .i64 0, .int .i64 0, .int .i64 0, .int .i64 0, .int .i64 0, .int .i64 0, .int .i64 0] 75)) (v := .pointer (some ⟨w5.heap.size, 0, none⟩)) (by rfl) rfl ?_ ?_
                  · go_simp
                    try rfl
                  refine hK.out _ _ (fun hS => ⟨cell_alloc _ hS.1, cell_alloc _ hS.2.1, cell_alloc _ hS.2.2⟩) ?_
                  clear hK K
                  have hV5 := heap_alloc_new w5 (Obj.cells #[.int .i64 0, .int .i64 0, .int .i64 0, .int .i64 0, .int .i64 0, .int .i64 0, .int .i64 0] 75)
                  have hO5 := row_new HO5.out (Obj.cells #[.int .i64 0, .int .i64 0, .int .i64 0, .int .i64 0, .int .i64 0, .int .i64 0, .int .i64 0] 75)
                  have hp0 := Aside0.mk HB5.out.size
                  have hgp : g ≠ w5.heap.size := Nat.ne_of_lt HI5.out.lt
                  refine last_ (i := 19) (N := some 71) #[true, true, true, true, true, true, true, true, true, true, true, true, true, true, true, true, true, true, true, true, true, false] rfl rfl (by kernel_rfl) (by decide) (fun K hK => ?_)
                  refine goes_ (f := 77) Try.func77 (by kernel_rfl) rfl #[.pointer (some ⟨g, 0, none⟩), .int .i64 (wrap64 (x2 + n)), .int .i64 (wrap64 (y2 + n)), .int .i64 (wrap64 (z2 + n))] (by rfl) rfl rfl (by (try simp only [List.map_toArray, List.map_cons, List.map_nil]); rfl) ?_
                  refine (to_calls g _ _ _ _ _ x2 y2 z2 (wrap64 (x2 + n)) (wrap64 (y2 + n)) (wrap64 (z2 + n)) w2 _ (HI5.out.alloc _) (below_alloc HB5.out _)).mono ?_
                  rintro e w6 ⟨rfl, hI6, hB6, hK6⟩
                  refine ⟨_, rfl, ?_⟩
                  refine hK.out _ _ ?_
                  clear hK K
                  have hV := hK6.blk hV5 (Ne.symm hgp) (by simp)
                  have hIV := Aside0.mk hI6
                  have hOV := Aside0.mk (row_stepP (HI5.out.alloc _) hO5 hK6)
                  have hBV := Aside0.mk hB6
                  clear hV5 hO5 hI6 hB6 hK6
                  generalize w5.heap.size = p at hV hOV hp0 hgp ⊢
                  generalize w6 = V at hV hIV hOV hBV ⊢
                  refine last_ (i := 21) (N := none) #[true, true, true, true, true, true, true, true, true, true, true, true, true, true, true, true, true, true, true, true, true, true] rfl rfl (by kernel_rfl) (by decide) (fun K hK => ?_)
                  have c0 : V.cell? ⟨p, 0, none⟩ = some (.int .i64 0) := (blk_cell hV 0).trans rfl
                  have f0 : V.frozen? ⟨p, 0, none⟩ = false := blk_frozen hV 0
                  have c1 : V.cell? ⟨p, 1, none⟩ = some (.int .i64 0) := (blk_cell hV 1).trans rfl
                  have f1 : V.frozen? ⟨p, 1, none⟩ = false := blk_frozen hV 1
                  have c2 : V.cell? ⟨p, 2, none⟩ = some (.int .i64 0) := (blk_cell hV 2).trans rfl
                  have f2 : V.frozen? ⟨p, 2, none⟩ = false := blk_frozen hV 2
                  have c3 : V.cell? ⟨p, 3, none⟩ = some (.int .i64 0) := (blk_cell hV 3).trans rfl
                  have f3 : V.frozen? ⟨p, 3, none⟩ = false := blk_frozen hV 3
                  have c4 : V.cell? ⟨p, 4, none⟩ = some (.int .i64 0) := (blk_cell hV 4).trans rfl
                  have f4 : V.frozen? ⟨p, 4, none⟩ = false := blk_frozen hV 4
                  have c5 : V.cell? ⟨p, 5, none⟩ = some (.int .i64 0) := (blk_cell hV 5).trans rfl
                  have f5 : V.frozen? ⟨p, 5, none⟩ = false := blk_frozen hV 5
                  have c6 : V.cell? ⟨p, 6, none⟩ = some (.int .i64 0) := (blk_cell hV 6).trans rfl
                  have f6 : V.frozen? ⟨p, 6, none⟩ = false := blk_frozen hV 6
                  refine skip_ (w1 := (((((((V.setCell ⟨p, 0, none⟩ (.int .i64 x2)).setCell ⟨p, 1, none⟩ (.int .i64 (wrap64 (x2 + n)))).setCell ⟨p, 2, none⟩ (.int .i64 y2)).setCell ⟨p, 3, none⟩ (.int .i64 (wrap64 (y2 + n)))).setCell ⟨p, 4, none⟩ (.int .i64 z2)).setCell ⟨p, 5, none⟩ (.int .i64 (wrap64 (z2 + n)))).setCell ⟨p, 6, none⟩ (.int .i64 0))) (by rfl) rfl ?_ ?_
                  · simp only [chunkV]
                    go_simp
                  refine hK.out _ _ ?_
                  clear hK K
                  refine done_ (by kernel_rfl) ?_
                  have HH1 := Aside0.mk (show (((((((V.setCell ⟨p, 0, none⟩ (.int .i64 x2)).setCell ⟨p, 1, none⟩ (.int .i64 (wrap64 (x2 + n)))).setCell ⟨p, 2, none⟩ (.int .i64 y2)).setCell ⟨p, 3, none⟩ (.int .i64 (wrap64 (y2 + n)))).setCell ⟨p, 4, none⟩ (.int .i64 z2)).setCell ⟨p, 5, none⟩ (.int .i64 (wrap64 (z2 + n)))).setCell ⟨p, 6, none⟩ (.int .i64 0)).heap[p]? = some (.cells #[.int .i64 x2, .int .i64 (wrap64 (x2 + n)), .int .i64 y2, .int .i64 (wrap64 (y2 + n)), .int .i64 z2, .int .i64 (wrap64 (z2 + n)), .int .i64 0] 75 (0, 0)) from (blk_set (blk_set (blk_set (blk_set (blk_set (blk_set (blk_set hV 0 (.int .i64 x2)) 1 (.int .i64 (wrap64 (x2 + n)))) 2 (.int .i64 y2)) 3 (.int .i64 (wrap64 (y2 + n)))) 4 (.int .i64 z2)) 5 (.int .i64 (wrap64 (z2 + n)))) 6 (.int .i64 0)))
                  have HH2 := Aside0.mk (show IsS104 w2 (((((((V.setCell ⟨p, 0, none⟩ (.int .i64 x2)).setCell ⟨p, 1, none⟩ (.int .i64 (wrap64 (x2 + n)))).setCell ⟨p, 2, none⟩ (.int .i64 y2)).setCell ⟨p, 3, none⟩ (.int .i64 (wrap64 (y2 + n)))).setCell ⟨p, 4, none⟩ (.int .i64 z2)).setCell ⟨p, 5, none⟩ (.int .i64 (wrap64 (z2 + n)))).setCell ⟨p, 6, none⟩ (.int .i64 0)) g l0 l1 l2 bo bt (wrap64 (x2 + n)) (wrap64 (y2 + n)) (wrap64 (z2 + n)) from (IsS104.far (IsS104.far (IsS104.far (IsS104.far (IsS104.far (IsS104.far (IsS104.far hIV.out (p := ⟨p, 0, none⟩) hgp (.int .i64 x2)) (p := ⟨p, 1, none⟩) hgp (.int .i64 (wrap64 (x2 + n)))) (p := ⟨p, 2, none⟩) hgp (.int .i64 y2)) (p := ⟨p, 3, none⟩) hgp (.int .i64 (wrap64 (y2 + n)))) (p := ⟨p, 4, none⟩) hgp (.int .i64 z2)) (p := ⟨p, 5, none⟩) hgp (.int .i64 (wrap64 (z2 + n)))) (p := ⟨p, 6, none⟩) hgp (.int .i64 0)))
                  have HH3 := Aside0.mk (show Kd.R k75 75 (((((((V.setCell ⟨p, 0, none⟩ (.int .i64 x2)).setCell ⟨p, 1, none⟩ (.int .i64 (wrap64 (x2 + n)))).setCell ⟨p, 2, none⟩ (.int .i64 y2)).setCell ⟨p, 3, none⟩ (.int .i64 (wrap64 (y2 + n)))).setCell ⟨p, 4, none⟩ (.int .i64 z2)).setCell ⟨p, 5, none⟩ (.int .i64 (wrap64 (z2 + n)))).setCell ⟨p, 6, none⟩ (.int .i64 0)) w2.heap.size (fun k => k ≠ p) V8 out from Kd.R_keep hOV.out (KeepBut.set_ (KeepBut.set_ (KeepBut.set_ (KeepBut.set_ (KeepBut.set_ (KeepBut.set_ (KeepBut.set_ (KeepBut.refl V p none) 0 (.int .i64 x2)) 1 (.int .i64 (wrap64 (x2 + n)))) 2 (.int .i64 y2)) 3 (.int .i64 (wrap64 (y2 + n)))) 4 (.int .i64 z2)) 5 (.int .i64 (wrap64 (z2 + n)))) 6 (.int .i64 0)) (fun _ h => h))
                  have HH4 := Aside0.mk (show Below w2.heap.size w2 (((((((V.setCell ⟨p, 0, none⟩ (.int .i64 x2)).setCell ⟨p, 1, none⟩ (.int .i64 (wrap64 (x2 + n)))).setCell ⟨p, 2, none⟩ (.int .i64 y2)).setCell ⟨p, 3, none⟩ (.int .i64 (wrap64 (y2 + n)))).setCell ⟨p, 4, none⟩ (.int .i64 z2)).setCell ⟨p, 5, none⟩ (.int .i64 (wrap64 (z2 + n)))).setCell ⟨p, 6, none⟩ (.int .i64 0)) from (Below.setCell (Below.setCell (Below.setCell (Below.setCell (Below.setCell (Below.setCell (Below.setCell hBV.out (p := ⟨p, 0, none⟩) hp0.out (.int .i64 x2)) (p := ⟨p, 1, none⟩) hp0.out (.int .i64 (wrap64 (x2 + n)))) (p := ⟨p, 2, none⟩) hp0.out (.int .i64 y2)) (p := ⟨p, 3, none⟩) hp0.out (.int .i64 (wrap64 (y2 + n)))) (p := ⟨p, 4, none⟩) hp0.out (.int .i64 z2)) (p := ⟨p, 5, none⟩) hp0.out (.int .i64 (wrap64 (z2 + n)))) (p := ⟨p, 6, none⟩) hp0.out (.int .i64 0)))
                  clear c0 f0 c1 f1 c2 f2 c3 f3 c4 f4 c5 f5 c6 f6 hV
                  generalize (((((((V.setCell ⟨p, 0, none⟩ (.int .i64 x2)).setCell ⟨p, 1, none⟩ (.int .i64 (wrap64 (x2 + n)))).setCell ⟨p, 2, none⟩ (.int .i64 y2)).setCell ⟨p, 3, none⟩ (.int .i64 (wrap64 (y2 + n)))).setCell ⟨p, 4, none⟩ (.int .i64 z2)).setCell ⟨p, 5, none⟩ (.int .i64 (wrap64 (z2 + n)))).setCell ⟨p, 6, none⟩ (.int .i64 0)) = U at HH1 HH2 HH3 HH4 ⊢
                  simp only [Act.put, List.setIfInBounds_toArray, List.set_cons_zero, List.set_cons_succ]
                  go_wp2
                  go_meet
                  case rel => exact ⟨p, rfl, HH1, HH2, HH3, HH4, hp0⟩
              case rest =>
                obtain ⟨p, rfl, H1, HI, HO, HB, HP⟩ := hcut
                have c6 : wc.cell? ⟨p, 6, none⟩ = some (.int .i64 0) := (blk_cell H1.out 6).trans rfl
                have f6 : wc.frozen? ⟨p, 6, none⟩ = false := blk_frozen H1.out 6
                go_upto_region 8 with (fail)
                clear c6 f6
                have H2 : (wc.setCell ⟨p, 6, none⟩ (.int .i64 1)).heap[p]? = some (.cells #[.int .i64 x2, .int .i64 (wrap64 (x2 + n)), .int .i64 y2, .int .i64 (wrap64 (y2 + n)), .int .i64 z2, .int .i64 (wrap64 (z2 + n)), .int .i64 1] 75 (0, 0)) := blk_set H1.out 6 (.int .i64 1)
                have hgp : g ≠ p := fun e => HI.out.ne_blk H1.out (by decide) e
                have HI2 := Aside0.mk (IsS104.far HI.out (p := ⟨p, 6, none⟩) hgp (.int .i64 1))
                have HO2' := Aside0.mk (Kd.R_mono (ok' := fun _ => True) (Kd.R_keep HO.out (KeepBut.set_ (KeepBut.refl wc p none) 6 (.int .i64 1)) (fun _ h => h)) (fun _ _ => trivial))
                have HB2' := Aside0.mk (Below.setCell HB.out (p := ⟨p, 6, none⟩) HP.out (.int .i64 1))
                clear H1 HI HO HB
                generalize (wc.setCell ⟨p, 6, none⟩ (.int .i64 1)) = W at H2 HI2 HO2' HB2' ⊢
                have c0 : W.cell? ⟨p, 0, none⟩ = some (.int .i64 x2) := (blk_cell H2 0).trans rfl
                have c1 : W.cell? ⟨p, 1, none⟩ = some (.int .i64 (wrap64 (x2 + n))) := (blk_cell H2 1).trans rfl
                have c2 : W.cell? ⟨p, 2, none⟩ = some (.int .i64 y2) := (blk_cell H2 2).trans rfl
                have c3 : W.cell? ⟨p, 3, none⟩ = some (.int .i64 (wrap64 (y2 + n))) := (blk_cell H2 3).trans rfl
                have c4 : W.cell? ⟨p, 4, none⟩ = some (.int .i64 z2) := (blk_cell H2 4).trans rfl
                have c5 : W.cell? ⟨p, 5, none⟩ = some (.int .i64 (wrap64 (z2 + n))) := (blk_cell H2 5).trans rfl
                have c6 : W.cell? ⟨p, 6, none⟩ = some (.int .i64 1) := (blk_cell H2 6).trans rfl
                clear H2
                go_wp2_with (first | ((with_reducible refine gate_builtin (b := .append) (xs := #[.tmp 73, .tmp 75]) rfl ?_); at_builtin; refine Kd.R_append k75 (w0 := w2) w2.heap.size rfl (.tmp 73) (.tmp 75) 62 75 (.agg #[.int .i64 0, .int .i64 0, .int .i64 0, .int .i64 0, .int .i64 0, .int .i64 0, .int .i64 0]) 56 rfl Try.underlying62 info75 rfl (by decide) (by omega) V8 out (⟨⟨x2, wrap64 (x2 + n)⟩, ⟨y2, wrap64 (y2 + n)⟩, ⟨z2, wrap64 (z2 + n)⟩, 1⟩ : S75) [.int .i64 x2, .int .i64 (wrap64 (x2 + n)), .int .i64 y2, .int .i64 (wrap64 (y2 + n)), .int .i64 z2, .int .i64 (wrap64 (z2 + n)), .int .i64 1] (fun _ => True) (fun _ => False) rfl rfl ?aP (fun _ hk => hk.elim) ?aF ?aO ?aB ?aS ?aL ?_; (case aP => exact k75_mkM _ _ _ (⟨⟨x2, wrap64 (x2 + n)⟩, ⟨y2, wrap64 (y2 + n)⟩, ⟨z2, wrap64 (z2 + n)⟩, 1⟩ : S75)); (case aB => exact HB2'.out); (case aF => exact (fun _ _ => trivial)); (case aO => exact HO2'.out); (case aS => exact HB2'.out.size); (case aL => have := HL.out; omega); intro v103 w6 ho hb hg hat; have n0_ := Aside0.mk hb; have n1_ := Aside0.mk ho; have n2_ := Aside0.mk (HI2.out.grown hg (HI2.out.own_ne HO2'.out (by decide))); clear HB2' HO2' HI2 ho hb hg hat))
                go_roundg k1
                case measure => have := HK.out; omega
                case rel => exact ⟨_, _, _, _, _, rfl, HN, ⟨by have := HK.out; omega⟩, n2_, n1_, n0_⟩
            · have hnb : decide (0 < n) = false := decide_eq_false hn
              have h := H'.out
              rw [if_neg hn] at h
              clear H' hn
              obtain ⟨⟨p1, p2, p3, p4, p5, p6⟩, eq2, h⟩ := Option.bind_eq_some_iff.1 h
              dsimp only at h eq2
              by_cases hg2 : (0 ≤ p4 ∧ p4 ≤ p1 ∧ p1 ≤ (l0.length : Int)) ∧ (0 ≤ p5 ∧ p5 ≤ p2 ∧ p2 ≤ (l1.length : Int)) ∧ (0 ≤ p6 ∧ p6 ≤ p3 ∧ p3 ≤ (l2.length : Int))
              · rw [if_pos hg2] at h
                obtain ⟨⟨a1, a2, a3⟩, ⟨a4, a5, a6⟩, ⟨a7, a8, a9⟩⟩ := hg2
                obtain ⟨p4, rfl⟩ := Int.eq_ofNat_of_zero_le a1
                obtain ⟨p5, rfl⟩ := Int.eq_ofNat_of_zero_le a4
                obtain ⟨p6, rfl⟩ := Int.eq_ofNat_of_zero_le a7
                obtain ⟨p1, rfl⟩ := Int.eq_ofNat_of_zero_le (Int.le_trans (Int.natCast_nonneg _) a2)
                obtain ⟨p2, rfl⟩ := Int.eq_ofNat_of_zero_le (Int.le_trans (Int.natCast_nonneg _) a5)
                obtain ⟨p3, rfl⟩ := Int.eq_ofNat_of_zero_le (Int.le_trans (Int.natCast_nonneg _) a8)
                simp only [Int.toNat_natCast] at h
                have GD := Aside0.mk (show (p4 ≤ p1 ∧ p1 ≤ l0.length) ∧ (p5 ≤ p2 ∧ p2 ≤ l1.length) ∧ (p6 ≤ p3 ∧ p3 ≤ l2.length) by omega)
                have EQ2 := Aside0.mk eq2
                have HN := Aside0.mk h
                clear h eq2 a1 a2 a3 a4 a5 a6 a7 a8 a9
                go_upto_region 10 with (first | (go_at_call 76; with_reducible refine (weave_weaver_run.calls k1 g _ _ _ _ _ x y z n x2 y2 z2 w2 _ HI.out HB.out EQ.out).mono ?_; rintro e w4 ⟨rfl, hI4, hB4, hK4⟩; have n0_ := Aside0.mk (row_step HI.out HO.out hK4); have n1_ := Aside0.mk hI4; have n2_ := Aside0.mk hB4; clear HO HI HB hI4 hB4 hK4; have HO := n0_; have HI := n1_; have HB := n2_; clear n0_ n1_ n2_) | (go_at_call 78; with_reducible refine (weave_weaver_next.calls k1 g _ _ _ _ _ x2 y2 z2 p1 p2 p3 ↑p4 ↑p5 ↑p6 w2 _ HI.out HB.out EQ2.out).mono ?_; rintro e w4 ⟨rfl, hI4, hB4, hK4⟩; have n0_ := Aside0.mk (row_step HI.out HO.out hK4); have n1_ := Aside0.mk hI4; have n2_ := Aside0.mk hB4; clear HO HI HB hI4 hB4 hK4; have HO := n0_; have HI := n1_; have HB := n2_; clear n0_ n1_ n2_) | (go_at_call 77; with_reducible refine (to_calls g _ _ _ _ _ ↑p4 ↑p5 ↑p6 p1 p2 p3 w2 _ HI.out HB.out).mono ?_; rintro e w4 ⟨rfl, hI4, hB4, hK4⟩; have n0_ := Aside0.mk (row_step HI.out HO.out hK4); have n1_ := Aside0.mk hI4; have n2_ := Aside0.mk hB4; clear HO HI HB hI4 hB4 hK4; have HO := n0_; have HI := n1_; have HB := n2_; clear n0_ n1_ n2_; simp only [chunkV]))
                have hV := heap_alloc_new w4 (Obj.cells #[Value.int IntKind.i64 ↑p4, Value.int IntKind.i64 ↑p1, Value.int IntKind.i64 ↑p5, Value.int IntKind.i64 ↑p2, Value.int IntKind.i64 ↑p6, Value.int IntKind.i64 ↑p3, Value.int IntKind.i64 0] 75)
                have HI5 := Aside0.mk (HI.out.alloc (Obj.cells #[Value.int IntKind.i64 ↑p4, Value.int IntKind.i64 ↑p1, Value.int IntKind.i64 ↑p5, Value.int IntKind.i64 ↑p2, Value.int IntKind.i64 ↑p6, Value.int IntKind.i64 ↑p3, Value.int IntKind.i64 0] 75))
                have HO5 := Aside0.mk (row_new HO.out (Obj.cells #[Value.int IntKind.i64 ↑p4, Value.int IntKind.i64 ↑p1, Value.int IntKind.i64 ↑p5, Value.int IntKind.i64 ↑p2, Value.int IntKind.i64 ↑p6, Value.int IntKind.i64 ↑p3, Value.int IntKind.i64 0] 75))
                have HB5 := Aside0.mk (below_alloc HB.out (Obj.cells #[Value.int IntKind.i64 ↑p4, Value.int IntKind.i64 ↑p1, Value.int IntKind.i64 ↑p5, Value.int IntKind.i64 ↑p2, Value.int IntKind.i64 ↑p6, Value.int IntKind.i64 ↑p3, Value.int IntKind.i64 0] 75))
                have HP := Aside0.mk HB.out.size
                have hgp : g ≠ w4.heap.size := Nat.ne_of_lt HI.out.lt
                have hpl : w4.heap.size < (w4.alloc (Obj.cells #[Value.int IntKind.i64 ↑p4, Value.int IntKind.i64 ↑p1, Value.int IntKind.i64 ↑p5, Value.int IntKind.i64 ↑p2, Value.int IntKind.i64 ↑p6, Value.int IntKind.i64 ↑p3, Value.int IntKind.i64 0] 75)).heap.size := blk_lt hV
                clear HI HO HB
                generalize w4.alloc (Obj.cells #[Value.int IntKind.i64 ↑p4, Value.int IntKind.i64 ↑p1, Value.int IntKind.i64 ↑p5, Value.int IntKind.i64 ↑p2, Value.int IntKind.i64 ↑p6, Value.int IntKind.i64 ↑p3, Value.int IntKind.i64 0] 75) = W at hV HI5 HO5 HB5 hpl ⊢
                generalize w4.heap.size = p at hV HO5 HP hgp hpl ⊢
                obtain ⟨A0', c0', A1', c1', A2', c2', A3', c3', A4', c4', hb, ⟨hgg, hk0, hk1, hk2⟩, hr0, hr1, hr2, hr3, hr4⟩ := HI5.out
                have oc := outcome_calls g A0' c0' l0 A1' c1' l1 A2' c2' l2 p4 p1 p5 p2 p6 p3 0 w2 W (cellS104_0 hb) (cellS104_1 hb) (cellS104_2 hb) hr0 hr1 hr2 hk0 hk1 hk2 GD.out.1.1 GD.out.1.2 GD.out.2.1.1 GD.out.2.1.2 GD.out.2.2.1 GD.out.2.2.2 HB5.out
                unfold chunkV at oc
                have OC := Aside0.mk oc
                clear oc hb hgg hk0 hk1 hk2 hr0 hr1 hr2 hr3 hr4
                have c0 : W.cell? ⟨p, 0, none⟩ = some (.int .i64 (p4 : Int)) := (blk_cell hV 0).trans rfl
                have c1 : W.cell? ⟨p, 1, none⟩ = some (.int .i64 (p1 : Int)) := (blk_cell hV 1).trans rfl
                have c2 : W.cell? ⟨p, 2, none⟩ = some (.int .i64 (p5 : Int)) := (blk_cell hV 2).trans rfl
                have c3 : W.cell? ⟨p, 3, none⟩ = some (.int .i64 (p2 : Int)) := (blk_cell hV 3).trans rfl
                have c4 : W.cell? ⟨p, 4, none⟩ = some (.int .i64 (p6 : Int)) := (blk_cell hV 4).trans rfl
                have c5 : W.cell? ⟨p, 5, none⟩ = some (.int .i64 (p3 : Int)) := (blk_cell hV 5).trans rfl
                have c6 : W.cell? ⟨p, 6, none⟩ = some (.int .i64 0) := (blk_cell hV 6).trans rfl
                have HV := Aside0.mk hV
                clear hV
                go_upto_region 11 with (first | (go_at_call 79; refine OC.out.mono ?_; rintro e w6 ⟨rfl, hb6⟩; have hV6 := (hb6.block p hpl).trans HV.out; have n0_ := Aside0.mk (HI5.out.below hb6); have n1_ := Aside0.mk (Kd.R_below HO5.out hb6); have n2_ := Aside0.mk (below_then HB5.out HB5.out.size hb6); clear HI5 HO5 HB5 hb6 OC HV c0 c1 c2 c3 c4 c5 c6; have d6 := (blk_cell hV6 6).trans rfl; have f6 := blk_frozen hV6 6))
                have H2 : (w6.setCell ⟨p, 6, none⟩ (.int .i64 (outc (XWv.part l0 p4 p1) (XWv.part l1 p5 p2) (XWv.part l2 p6 p3)))).heap[p]? = some (.cells #[.int .i64 (p4 : Int), .int .i64 (p1 : Int), .int .i64 (p5 : Int), .int .i64 (p2 : Int), .int .i64 (p6 : Int), .int .i64 (p3 : Int), .int .i64 (outc (XWv.part l0 p4 p1) (XWv.part l1 p5 p2) (XWv.part l2 p6 p3))] 75 (0, 0)) := blk_set hV6 6 (.int .i64 (outc (XWv.part l0 p4 p1) (XWv.part l1 p5 p2) (XWv.part l2 p6 p3)))
                have HI2 := Aside0.mk (IsS104.far n0_.out (p := ⟨p, 6, none⟩) hgp (.int .i64 (outc (XWv.part l0 p4 p1) (XWv.part l1 p5 p2) (XWv.part l2 p6 p3))))
                have HO2' := Aside0.mk (Kd.R_mono (ok' := fun _ => True) (Kd.R_keep n1_.out (KeepBut.set_ (KeepBut.refl w6 p none) 6 (.int .i64 (outc (XWv.part l0 p4 p1) (XWv.part l1 p5 p2) (XWv.part l2 p6 p3)))) (fun _ h => h)) (fun _ _ => trivial))
                have HB2' := Aside0.mk (Below.setCell n2_.out (p := ⟨p, 6, none⟩) HP.out (.int .i64 (outc (XWv.part l0 p4 p1) (XWv.part l1 p5 p2) (XWv.part l2 p6 p3))))
                clear n0_ n1_ n2_ d6 f6 hV6 hpl
                generalize (w6.setCell ⟨p, 6, none⟩ (.int .i64 (outc (XWv.part l0 p4 p1) (XWv.part l1 p5 p2) (XWv.part l2 p6 p3)))) = W at H2 HI2 HO2' HB2' ⊢
                have c0 : W.cell? ⟨p, 0, none⟩ = some (.int .i64 (p4 : Int)) := (blk_cell H2 0).trans rfl
                have c1 : W.cell? ⟨p, 1, none⟩ = some (.int .i64 (p1 : Int)) := (blk_cell H2 1).trans rfl
                have c2 : W.cell? ⟨p, 2, none⟩ = some (.int .i64 (p5 : Int)) := (blk_cell H2 2).trans rfl
                have c3 : W.cell? ⟨p, 3, none⟩ = some (.int .i64 (p2 : Int)) := (blk_cell H2 3).trans rfl
                have c4 : W.cell? ⟨p, 4, none⟩ = some (.int .i64 (p6 : Int)) := (blk_cell H2 4).trans rfl
                have c5 : W.cell? ⟨p, 5, none⟩ = some (.int .i64 (p3 : Int)) := (blk_cell H2 5).trans rfl
                have c6 : W.cell? ⟨p, 6, none⟩ = some (.int .i64 (outc (XWv.part l0 p4 p1) (XWv.part l1 p5 p2) (XWv.part l2 p6 p3))) := (blk_cell H2 6).trans rfl
                clear H2
                go_wp2_with (first | ((with_reducible refine gate_builtin (b := .append) (xs := #[.tmp 88, .tmp 90]) rfl ?_); at_builtin; refine Kd.R_append k75 (w0 := w2) w2.heap.size rfl (.tmp 88) (.tmp 90) 62 75 (.agg #[.int .i64 0, .int .i64 0, .int .i64 0, .int .i64 0, .int .i64 0, .int .i64 0, .int .i64 0]) 56 rfl Try.underlying62 info75 rfl (by decide) (by omega) V8 out (⟨⟨(p4 : Int), (p1 : Int)⟩, ⟨(p5 : Int), (p2 : Int)⟩, ⟨(p6 : Int), (p3 : Int)⟩, (outc (XWv.part l0 p4 p1) (XWv.part l1 p5 p2) (XWv.part l2 p6 p3))⟩ : S75) [.int .i64 (p4 : Int), .int .i64 (p1 : Int), .int .i64 (p5 : Int), .int .i64 (p2 : Int), .int .i64 (p6 : Int), .int .i64 (p3 : Int), .int .i64 (outc (XWv.part l0 p4 p1) (XWv.part l1 p5 p2) (XWv.part l2 p6 p3))] (fun _ => True) (fun _ => False) rfl rfl ?aP (fun _ hk => hk.elim) ?aF ?aO ?aB ?aS ?aL ?_; (case aP => exact k75_mkM _ _ _ (⟨⟨(p4 : Int), (p1 : Int)⟩, ⟨(p5 : Int), (p2 : Int)⟩, ⟨(p6 : Int), (p3 : Int)⟩, (outc (XWv.part l0 p4 p1) (XWv.part l1 p5 p2) (XWv.part l2 p6 p3))⟩ : S75)); (case aB => exact HB2'.out); (case aF => exact (fun _ _ => trivial)); (case aO => exact HO2'.out); (case aS => exact HB2'.out.size); (case aL => have := HL.out; omega); intro v103 w6 ho hb hg hat; have n0_ := Aside0.mk hb; have n1_ := Aside0.mk ho; have n2_ := Aside0.mk (HI2.out.grown hg (HI2.out.own_ne HO2'.out (by decide))); clear HB2' HO2' HI2 ho hb hg hat))
                go_roundg k1
                case measure => have := HK.out; omega
                case rel => exact ⟨_, _, _, _, _, rfl, HN, ⟨by have := HK.out; omega⟩, n2_, n1_, n0_⟩
              · rw [if_neg hg2] at h; cases h
          · rw [if_neg hl] at H; cases H
end Go.Proofs.Ytlkgdfeeepiidaa.All
namespace Go.Proofs.Ytlkgdfeeepiidaa.All
open Go.RowKit Go.Proofs.Ytlkgdfeeepiidaa Go.Proofs.Ytlkgdfeeepiidaa.XWv Go.Proofs.YtlkgdfeeepiidaaW.PrintWords Go.Proofs.YtlkgdfeeepiidaaW.PrintLast Go.Proofs.YtlkgdfeeepiidaaW.PrintMore
theorem weave_Chunks.mono_l : ∀ k b o t bo bt x y z out, LeO (weave_Chunks.l0 k b o t bo bt x y z out) (weave_Chunks.l0 (k + 1) b o t bo bt x y z out)
  | 0 => fun _ _ _ _ _ _ _ _ _ r h => by simp [weave_Chunks.l0] at h
  | k + 1 => by
    have ih := weave_Chunks.mono_l k
    intro b o t bo bt x y z out
    rw [weave_Chunks.l0, weave_Chunks.l0]
    repeat' first
      | (with_reducible exact ih _ _ _ _ _ _ _ _ _)
      | (with_reducible exact weave_weaver_run.mono _ _ _ _ _ _ _ _ _)
      | (with_reducible exact weave_weaver_next.mono _ _ _ _ _ _ _ _ _)
      | (with_reducible exact LeO.refl _)
      | (with_reducible exact LeO.none _)
      | (with_reducible refine LeO.ite ?_ ?_)
      | (with_reducible refine LeO.bind ?_ (fun _ => ?_))
theorem weave_Chunks.mono : ∀ a0 a1 a2 k, LeO (weave_Chunks.f k a0 a1 a2) (weave_Chunks.f (k + 1) a0 a1 a2) := by
  intro a0 a1 a2 k
  unfold weave_Chunks.f
  exact LeO.bind (weave_kept.mono _ _ _) (fun _ => LeO.bind (weave_kept.mono _ _ _) (fun _ => weave_Chunks.mono_l k _ _ _ _ _ _ _ _ _))
end Go.Proofs.Ytlkgdfeeepiidaa.All
namespace Go.Proofs.Ytlkgdfeeepiidaa.XWv
open Go.RowKit Go.Proofs.Ytlkgdfeeepiidaa.All Go.Proofs.YtlkgdfeeepiidaaW.PrintWords Go.Proofs.YtlkgdfeeepiidaaW.PrintLast Go.Proofs.YtlkgdfeeepiidaaW.PrintMore
set_option linter.unusedVariables false
set_option linter.unusedSimpArgs false
theorem clash_calls (x0 x1 y0 y1 z0 z1 c : Int) (w : World) :
    Calls Try.prog 85 #[chunkV x0 x1 y0 y1 z0 z1 c] w fun e w' => e = .returned (.bool (c == 5)) ∧ w' = w.alloc (.cells #[.int .i64 x0, .int .i64 x1, .int .i64 y0, .int .i64 y1, .int .i64 z0, .int .i64 z1, .int .i64 c] 75) := by
  unfold chunkV
  go_enter Try.func85, Try.ntmps85
  go_wp2
  go_ret
  exact ⟨rfl, rfl⟩
end Go.Proofs.Ytlkgdfeeepiidaa.XWv
namespace Go.Proofs.Ytlkgdfeeepiidaa.XWv
open Go.RowKit Go.Proofs.Ytlkgdfeeepiidaa.All Go.Proofs.YtlkgdfeeepiidaaW.PrintWords Go.Proofs.YtlkgdfeeepiidaaW.PrintLast Go.Proofs.YtlkgdfeeepiidaaW.PrintMore
set_option linter.unusedVariables false
set_option linter.unusedSimpArgs false
set_option maxRecDepth 100000 in
set_option maxHeartbeats 1600000 in
theorem index_calls (A : Option Addr) (c : Nat) (l : List S75) (w : World) (hr : Kd.C k75 w A l.length l) (hl : l.length ≤ 1000000) :
    Calls Try.prog 102 #[.slice A l.length c, .func (.func 85) #[] #[]] w fun e w' => (∃ i : Int, e = .returned (.int .i64 i) ∧ (decide (0 ≤ i) = l.any (fun x => x.f3 == 5))) ∧ Below w.heap.size w w' := by
  go_enter Try.func102, Try.ntmps102
  have HR := Aside0.mk hr
  clear hr
  go_wp2
  go_loopw [8] (fun v wr => ∃ i : Nat, v = .int .i64 (i : Int) ∧ Aside0 (i ≤ l.length) ∧ Aside0 ((l.take i).any (fun x => x.f3 == 5) = false) ∧ Aside0 (Below w.heap.size w wr)) (fun v _ => ((l.length : Int) - intOf v).toNat)
  case atStart => exact ⟨0, rfl, ⟨Nat.zero_le _⟩, ⟨by simp⟩, ⟨Below.refl _ _⟩⟩
  case round =>
    obtain ⟨i, rfl, HI, HN, HB⟩ := hrel
    by_cases h : i < l.length
    · have hb : decide ((i : Int) < (l.length : Int)) = true := decide_eq_true (by omega)
      obtain ⟨ad, eA, h0, h1, h2, h3, h4, h5, h6⟩ := at_T75 HR.out (i : Int) (by omega) (by omega)
      cases eA
      have q1 := pw_cell_below HB.out h0
      have q2 := pw_cell_below HB.out h1
      have q3 := pw_cell_below HB.out h2
      have q4 := pw_cell_below HB.out h3
      have q5 := pw_cell_below HB.out h4
      have q6 := pw_cell_below HB.out h5
      have q7 := pw_cell_below HB.out h6
      clear h0 h1 h2 h3 h4 h5 h6
      rw [Int.toNat_natCast] at q1 q2 q3 q4 q5 q6 q7
      have p2 : ((i : Int) < (l.length : Int)) = True := eq_true (by omega)
      have p3 : (i < l.length) = True := eq_true h
      have HS := Aside0.mk (show (l.take (i + 1)).any (fun x => x.f3 == 5) = ((l.take i).any (fun x => x.f3 == 5) || ((rd_T75 l (i : Int)).f3 == 5)) by
        rw [List.take_succ_eq_append_getElem h, List.any_append]; unfold rd_T75; simp [h])
      have cl := fun W => clash_calls (rd_T75 l (i : Int)).f0.f0 (rd_T75 l (i : Int)).f0.f1 (rd_T75 l (i : Int)).f1.f0 (rd_T75 l (i : Int)).f1.f1 (rd_T75 l (i : Int)).f2.f0 (rd_T75 l (i : Int)).f2.f1 (rd_T75 l (i : Int)).f3 W
      unfold chunkV at cl
      have CL := Aside0.mk cl
      clear cl
      by_cases he : ((rd_T75 l (i : Int)).f3 == 5) = true
      · have hA : l.any (fun x => x.f3 == 5) = true := by
          rw [List.any_eq_true]
          refine ⟨l[i], List.getElem_mem h, ?_⟩
          have : rd_T75 l (i : Int) = l[i] := by unfold rd_T75; simp [h]
          rw [← this]; exact he
        have HA := Aside0.mk hA
        have HB' := HB.out
        clear HI HN hA
        go_wp2_with (first | (go_at_call 85; refine (CL.out _).mono ?_; rintro e w6 ⟨rfl, rfl⟩; simp only [he]))
        go_ret
        exact ⟨⟨(i : Int), rfl, by rw [HA.out]; exact decide_eq_true (by omega)⟩, below_alloc HB' _⟩
      · rw [Bool.not_eq_true] at he
        have HN2 := Aside0.mk (show (l.take (i + 1)).any (fun x => x.f3 == 5) = false by rw [HS.out, HN.out, he]; rfl)
        have HB' := Aside0.mk HB.out
        have s1 : IntKind.i64.wrap ((i : Int) + 1) = ((i + 1 : Nat) : Int) := by rw [i64_w, wrap64]; omega
        clear HN HS
        go_wp2_with (first | (go_at_call 85; refine (CL.out _).mono ?_; rintro e w6 ⟨rfl, rfl⟩; simp only [he]))
        go_roundw
        case rel => exact ⟨i + 1, rfl, ⟨by omega⟩, HN2, ⟨below_alloc HB'.out _⟩⟩
        case measure => simp [intOf]; omega
    · have hb : decide ((i : Int) < (l.length : Int)) = false := decide_eq_false (by omega)
      have hi : i = l.length := by have := HI.out; omega
      have hN := HN.out
      rw [hi, List.take_of_length_le (Nat.le_refl _)] at hN
      have HB' := HB.out
      clear HI HN HB hi
      go_wp2
      go_ret
      exact ⟨⟨-1, rfl, by rw [hN]; rfl⟩, HB'⟩
end Go.Proofs.Ytlkgdfeeepiidaa.XWv
namespace Go.Proofs.Ytlkgdfeeepiidaa.XWv
open Go.RowKit Go.Proofs.Ytlkgdfeeepiidaa.All Go.Proofs.YtlkgdfeeepiidaaW.PrintWords Go.Proofs.YtlkgdfeeepiidaaW.PrintLast Go.Proofs.YtlkgdfeeepiidaaW.PrintMore
set_option linter.unusedVariables false
set_option linter.unusedSimpArgs false
theorem contains_calls (A : Option Addr) (c : Nat) (l : List S75) (w : World) (hr : Kd.C k75 w A l.length l) (hl : l.length ≤ 1000000) :
    Calls Try.prog 84 #[.slice A l.length c, .func (.func 85) #[] #[]] w fun e w' => e = .returned (.bool (l.any (fun x => x.f3 == 5))) ∧ Below w.heap.size w w' := by
  have HC := Aside0.mk (index_calls A c l w hr hl)
  clear hr
  go_enter Try.func84, Try.ntmps84
  go_wp2_with (first | (go_at_call 102; refine HC.out.mono ?_; rintro e w1 ⟨⟨i, rfl, hi⟩, hB⟩; have HD := Aside0.mk hi; have HB := Aside0.mk hB; clear hi hB))
  go_ret
  exact ⟨by rw [← HD.out]; rfl, HB.out⟩
end Go.Proofs.Ytlkgdfeeepiidaa.XWv
namespace Go.Proofs.Ytlkgdfeeepiidaa.All
open Go.RowKit Go.Proofs.Ytlkgdfeeepiidaa.XWv Go.Proofs.YtlkgdfeeepiidaaW.PrintWords Go.Proofs.YtlkgdfeeepiidaaW.PrintLast Go.Proofs.YtlkgdfeeepiidaaW.PrintMore
set_option linter.unusedVariables false
set_option linter.unusedSimpArgs false
def weave_Clean.f (l0 : List S75) : Option Bool := if l0.length ≤ 1000000 then some (! l0.any (fun x => x.f3 == 5)) else none
theorem weave_Clean.calls (A0 : Option Addr) (c0 : Nat) (l0 : List S75) (r : Bool) (w : World) (hr0 : Kd.C k75 w A0 l0.length l0) (hc0 : l0.length ≤ c0) (h : weave_Clean.f l0 = some r) :
    Calls Try.prog 57 #[.slice A0 l0.length c0] w fun e w' => e = .returned (.bool r) ∧ Below w.heap.size w w' := by
  unfold weave_Clean.f at h
  split at h
  · rename_i hl
    obtain rfl := Option.some.inj h
    have HC := Aside0.mk (contains_calls A0 c0 l0 w hr0 hl)
    clear hr0 h
    go_enter Try.func57, Try.ntmps57
    go_wp2_with (first | (go_at_call 84; refine HC.out.mono ?_; rintro e w1 ⟨rfl, hB⟩))
    go_ret
    exact ⟨rfl, hB⟩
  · cases h
end Go.Proofs.Ytlkgdfeeepiidaa.All
namespace Go.Proofs.Ytlkgdfeeepiidaa.All
open Go.RowKit Go.Proofs.Ytlkgdfeeepiidaa Go.Proofs.Ytlkgdfeeepiidaa.XWv Go.Proofs.YtlkgdfeeepiidaaW.PrintWords Go.Proofs.YtlkgdfeeepiidaaW.PrintLast Go.Proofs.YtlkgdfeeepiidaaW.PrintMore
set_option linter.unusedVariables false
set_option linter.unusedSimpArgs false
/-- A range that lies within a list: its numbers. -/
def cutOf (l : List Int) (q : S73) : Option (List Int) := if 0 ≤ q.f0 ∧ q.f0 ≤ q.f1 ∧ q.f1 ≤ (l.length : Int) then some (XWv.part l q.f0.toNat q.f1.toNat) else none
/-- Chunk by chunk: the side that counts. -/
def mergeL (o t : List Int) : List S75 → List Int → Option (List Int)
  | [], out => some out
  | c :: cs, out => (if c.f3 = 2 ∨ c.f3 = 4 then cutOf o c.f1 else cutOf t c.f2).bind fun p => if out.length + p.length ≤ 1000000 then mergeL o t cs (out ++ p) else none
def weave_Merge.f (k : Nat) (b o t : List Int) : Option (List Int × Bool) :=
  (weave_Chunks.f k b o t).bind fun l => (weave_Clean.f l).bind fun c => if c = true then (mergeL o t l []).bind fun r => some (r, true) else some ([], false)
theorem weave_Merge.mono : ∀ a0 a1 a2 k, LeO (weave_Merge.f k a0 a1 a2) (weave_Merge.f (k + 1) a0 a1 a2) := by
  intro a0 a1 a2 k
  unfold weave_Merge.f
  exact LeO.bind (weave_Chunks.mono _ _ _ _) (fun _ => LeO.refl _)
end Go.Proofs.Ytlkgdfeeepiidaa.All
namespace Go.Proofs.Ytlkgdfeeepiidaa.All
open Go.RowKit Go.Proofs.Ytlkgdfeeepiidaa Go.Proofs.Ytlkgdfeeepiidaa.XWv Go.Proofs.YtlkgdfeeepiidaaW.PrintWords Go.Proofs.YtlkgdfeeepiidaaW.PrintLast Go.Proofs.YtlkgdfeeepiidaaW.PrintMore
set_option linter.unusedVariables false
set_option linter.unusedSimpArgs false
set_option maxHeartbeats 4000000 in
set_option maxRecDepth 100000 in
theorem weave_Merge.calls (k : Nat) (A0 : Option Addr) (c0 : Nat) (l0 : List Int) (A1 : Option Addr) (c1 : Nat) (l1 : List Int) (A2 : Option Addr) (c2 : Nat) (l2 : List Int) (r1 : List Int) (r2 : Bool) (w : World)
    (hr0 : Kd.C (Kd.int .i64) w A0 l0.length l0) (hc0 : l0.length ≤ c0) (hr1 : Kd.C (Kd.int .i64) w A1 l1.length l1) (hc1 : l1.length ≤ c1) (hr2 : Kd.C (Kd.int .i64) w A2 l2.length l2) (hc2 : l2.length ≤ c2) (h : weave_Merge.f k l0 l1 l2 = some (r1, r2)) :
    Calls Try.prog 53 #[.slice A0 l0.length c0, .slice A1 l1.length c1, .slice A2 l2.length c2] w fun e w' => ∃ v0_ : Value, e = .returned (.tuple #[v0_, .bool r2]) ∧ Kd.R (Kd.int .i64) 3 w' w.heap.size (fun _ => True) v0_ r1 ∧ Below w.heap.size w w' := by
  unfold weave_Merge.f at h
  obtain ⟨l, e1, h⟩ := Option.bind_eq_some_iff.1 h
  obtain ⟨c, e2, h⟩ := Option.bind_eq_some_iff.1 h
  have HH := Aside0.mk h
  have HR0 := Aside0.mk hr0
  have HR1 := Aside0.mk hr1
  have HR2 := Aside0.mk hr2
  have HC0 := Aside0.mk hc0
  have HC1 := Aside0.mk hc1
  have HC2 := Aside0.mk hc2
  replace e1 := Aside0.mk e1
  replace e2 := Aside0.mk e2
  clear h hr0 hr1 hr2 hc0 hc1 hc2
  go_enter Try.func53, Try.ntmps53
  cases c with
  | false =>
    have hE := HH.out
    rw [if_neg Bool.false_ne_true] at hE
    obtain ⟨rfl, rfl⟩ := Prod.mk.inj (Option.some.inj hE)
    clear HH hE
    go_wp2_with (first
      | (go_at_call 51; with_reducible refine (weave_Chunks.calls k A0 _ l0 A1 _ l1 A2 _ l2 l _ HR0.out HC0.out HR1.out HC1.out HR2.out HC2.out e1.out).mono ?_; rintro e w1 ⟨v1, rfl, ho1, hb1⟩; have HO1 := Aside0.mk ho1; have HB1 := Aside0.mk hb1; clear ho1 hb1; obtain ⟨Ab, cb, eb⟩ := Kd.R_slice HO1.out; subst eb)
      | (go_at_call 57; with_reducible refine (weave_Clean.calls Ab cb l false _ (Kd.R_reads' HO1.out).2.2 (Kd.R_reads' HO1.out).2.1 e2.out).mono ?_; rintro e w2 ⟨rfl, hb2⟩; have HB2 := Aside0.mk hb2; clear hb2))
    go_ret2
    exact ⟨_, rfl, Kd.R_nil _ _ _ _ _, below_step HB1.out HB2.out⟩
  | true =>
    have hE := HH.out
    rw [if_pos rfl] at hE
    obtain ⟨q, hq, hE⟩ := Option.bind_eq_some_iff.1 hE
    obtain ⟨rfl, rfl⟩ := Prod.mk.inj (Option.some.inj hE)
    have HQ := Aside0.mk hq
    clear HH hE hq
    go_upto_region 5 with (first
      | (go_at_call 51; with_reducible refine (weave_Chunks.calls k A0 _ l0 A1 _ l1 A2 _ l2 l _ HR0.out HC0.out HR1.out HC1.out HR2.out HC2.out e1.out).mono ?_; rintro e w1 ⟨v1, rfl, ho1, hb1⟩; have HO1 := Aside0.mk ho1; have HB1 := Aside0.mk hb1; clear ho1 hb1; obtain ⟨Ab, cb, eb⟩ := Kd.R_slice HO1.out; subst eb)
      | (go_at_call 57; with_reducible refine (weave_Clean.calls Ab cb l true _ (Kd.R_reads' HO1.out).2.2 (Kd.R_reads' HO1.out).2.1 e2.out).mono ?_; rintro e w2 ⟨rfl, hb2⟩; have HB2 := Aside0.mk hb2; clear hb2))
    have HCL := Aside0.mk (Kd.C_below (Kd.R_reads' HO1.out).2.2 HB2.out)
    have HBw := Aside0.mk (below_step HB1.out HB2.out)
    have hll : l.length ≤ 1000000 := by have h := e2.out; unfold weave_Clean.f at h; split at h; assumption; cases h
    go_wp2
    go_loopw [9, 21] (fun v9 v21 wr => ∃ (i : Nat) (out : List Int) (V9 : Value), v9 = V9 ∧ v21 = .int .i64 (i : Int) ∧ Aside0 (i ≤ l.length) ∧ Aside0 (mergeL l1 l2 (l.drop i) out = some q) ∧ Aside0 (Kd.R (Kd.int .i64) 3 wr w2.heap.size (fun _ => True) V9 out) ∧ Aside0 (Below w2.heap.size w2 wr)) (fun _ v _ => ((l.length : Int) - intOf v).toNat)
    case atStart => exact ⟨0, [], _, rfl, rfl, ⟨Nat.zero_le _⟩, HQ, ⟨Kd.R_nil _ _ _ _ _⟩, ⟨Below.refl _ _⟩⟩
    case round =>
      clear HQ
      obtain ⟨i, out, V9, hV9, rfl, HI, HM, HO, HB⟩ := hrel
      replace hV9 := hV9.symm
      subst hV9
      by_cases h : i < l.length
      · obtain ⟨ad, eA, h0, h1, h2, h3, h4, h5, h6⟩ := at_T75 HCL.out (i : Int) (by omega) (by omega)
        cases eA
        have q0 := pw_cell_below HB.out h0
        have q1 := pw_cell_below HB.out h1
        have q2 := pw_cell_below HB.out h2
        have q3 := pw_cell_below HB.out h3
        have q4 := pw_cell_below HB.out h4
        have q5 := pw_cell_below HB.out h5
        have q6 := pw_cell_below HB.out h6
        clear h0 h1 h2 h3 h4 h5 h6
        rw [Int.toNat_natCast] at q0 q1 q2 q3 q4 q5 q6
        have hM := HM.out
        rw [List.drop_eq_getElem_cons h, mergeL] at hM
        have hX : l[i] = rd_T75 l (i : Int) := by unfold rd_T75; simp [h]
        rw [hX] at hM
        clear hX HM
        generalize rd_T75 l (i : Int) = X at q0 q1 q2 q3 q4 q5 q6 hM
        obtain ⟨pp, hp1, hM⟩ := Option.bind_eq_some_iff.1 hM
        by_cases hpl : out.length + pp.length ≤ 1000000
        · rw [if_pos hpl] at hM
          have HM := Aside0.mk hM
          have HPL := Aside0.mk hpl
          clear hM hpl
          have hb : decide ((i : Int) < (l.length : Int)) = true := decide_eq_true (by omega)
          have p2 : ((i : Int) < (l.length : Int)) = True := eq_true (by omega)
          have p3 : (i < l.length) = True := eq_true h
          have s1 : IntKind.i64.wrap ((i : Int) + 1) = ((i + 1 : Nat) : Int) := by rw [i64_w, wrap64]; omega
          have HS1 := Aside0.mk s1
          go_upto_region 8 with (fail)
          have hV := heap_alloc_new wr (Obj.cells #[Value.int IntKind.i64 X.f0.f0, Value.int IntKind.i64 X.f0.f1, Value.int IntKind.i64 X.f1.f0, Value.int IntKind.i64 X.f1.f1, Value.int IntKind.i64 X.f2.f0, Value.int IntKind.i64 X.f2.f1, Value.int IntKind.i64 X.f3] 75)
          have HO5 := Aside0.mk (Kd.R_alloc HO.out (Obj.cells #[Value.int IntKind.i64 X.f0.f0, Value.int IntKind.i64 X.f0.f1, Value.int IntKind.i64 X.f1.f0, Value.int IntKind.i64 X.f1.f1, Value.int IntKind.i64 X.f2.f0, Value.int IntKind.i64 X.f2.f1, Value.int IntKind.i64 X.f3] 75))
          have HB5 := Aside0.mk (below_alloc HB.out (Obj.cells #[Value.int IntKind.i64 X.f0.f0, Value.int IntKind.i64 X.f0.f1, Value.int IntKind.i64 X.f1.f0, Value.int IntKind.i64 X.f1.f1, Value.int IntKind.i64 X.f2.f0, Value.int IntKind.i64 X.f2.f1, Value.int IntKind.i64 X.f3] 75))
          clear HO HB q0 q1 q2 q3 q4 q5 q6
          generalize wr.alloc (Obj.cells #[Value.int IntKind.i64 X.f0.f0, Value.int IntKind.i64 X.f0.f1, Value.int IntKind.i64 X.f1.f0, Value.int IntKind.i64 X.f1.f1, Value.int IntKind.i64 X.f2.f0, Value.int IntKind.i64 X.f2.f1, Value.int IntKind.i64 X.f3] 75) = W at hV HO5 HB5 ⊢
          generalize wr.heap.size = p at hV ⊢
          have e0c : W.cell? ⟨p, 0, none⟩ = some (.int .i64 X.f0.f0) := (blk_cell hV 0).trans rfl
          have e1c : W.cell? ⟨p, 1, none⟩ = some (.int .i64 X.f0.f1) := (blk_cell hV 1).trans rfl
          have e2c : W.cell? ⟨p, 2, none⟩ = some (.int .i64 X.f1.f0) := (blk_cell hV 2).trans rfl
          have e3c : W.cell? ⟨p, 3, none⟩ = some (.int .i64 X.f1.f1) := (blk_cell hV 3).trans rfl
          have e4c : W.cell? ⟨p, 4, none⟩ = some (.int .i64 X.f2.f0) := (blk_cell hV 4).trans rfl
          have e5c : W.cell? ⟨p, 5, none⟩ = some (.int .i64 X.f2.f1) := (blk_cell hV 5).trans rfl
          have e6c : W.cell? ⟨p, 6, none⟩ = some (.int .i64 X.f3) := (blk_cell hV 6).trans rfl
          clear hV
          by_cases d2 : X.f3 = 2
          · have d2b : (X.f3 == 2) = true := beq_iff_eq.2 d2
            have hp2 := hp1
            rw [if_pos (Or.inl d2)] at hp2
            unfold cutOf at hp2
            split at hp2
            · rename_i hq
              obtain ⟨g1, g2, g3⟩ := hq
              obtain ⟨a, ha⟩ := Int.eq_ofNat_of_zero_le g1
              obtain ⟨b, hb'⟩ := Int.eq_ofNat_of_zero_le (Int.le_trans g1 g2)
              rw [ha, hb'] at hp2 g2
              rw [hb'] at g3
              simp only [Int.toNat_natCast] at hp2
              obtain rfl := Option.some.inj hp2
              obtain ⟨B, d, ofc, hrB, hdB⟩ := of_at a b A1 c1 l1 w (by omega) (by omega) HR1.out HC1.out
              have OF := Aside0.mk ofc
              have HRB := Aside0.mk (Kd.C_below hrB HBw.out)
              clear ofc hrB hdB hp1 hp2 g1 g2 g3
              rw [ha] at e2c
              rw [hb'] at e3c
              clear ha hb'
              go_wp2_with (first | (go_at_call 83; refine (OF.out _).mono ?_; rintro e w6 ⟨rfl, rfl⟩) | ((with_reducible refine gate_builtin (b := .append) (xs := #[.tmp 33, .tmp 37]) rfl ?_); at_builtin; refine Kd.R_append_row (Value.int .i64) (0 : Int) (h1 := fun _ => rfl) (w0 := w2) w2.heap.size rfl (.tmp 33) (.tmp 37) 29 3 (.int .i64 0) 8 rfl Try.underlying29 info3 rfl (by decide) V9 out (XWv.part l1 a b) B _ d (fun _ => True) rfl rfl (fun _ _ => trivial) (Kd.R_alloc HO5.out _) (Kd.C_alloc (Kd.C_below HRB.out HB5.out) _) (below_alloc HB5.out _) (below_alloc HB5.out _).size (by have := HPL.out; omega) ?_; intro v103 w7 ho hb8 hg hat; have n0_ := Aside0.mk hb8; have n1_ := Aside0.mk ho; clear HO5 HB5 ho hb8 hg hat))
              go_roundw
              case rel => exact ⟨i + 1, _, _, rfl, rfl, ⟨by omega⟩, HM, n1_, n0_⟩
              case measure => simp [intOf]; omega
            · cases hp2
          · have d2b : (X.f3 == 2) = false := beq_eq_false_iff_ne.2 d2
            by_cases d4 : X.f3 = 4
            · have d4b : (X.f3 == 4) = true := beq_iff_eq.2 d4
              have hp2 := hp1
              rw [if_pos (Or.inr d4)] at hp2
              unfold cutOf at hp2
              split at hp2
              · rename_i hq
                obtain ⟨g1, g2, g3⟩ := hq
                obtain ⟨a, ha⟩ := Int.eq_ofNat_of_zero_le g1
                obtain ⟨b, hb'⟩ := Int.eq_ofNat_of_zero_le (Int.le_trans g1 g2)
                rw [ha, hb'] at hp2 g2
                rw [hb'] at g3
                simp only [Int.toNat_natCast] at hp2
                obtain rfl := Option.some.inj hp2
                obtain ⟨B, d, ofc, hrB, hdB⟩ := of_at a b A1 c1 l1 w (by omega) (by omega) HR1.out HC1.out
                have OF := Aside0.mk ofc
                have HRB := Aside0.mk (Kd.C_below hrB HBw.out)
                clear ofc hrB hdB hp1 hp2 g1 g2 g3
                rw [ha] at e2c
                rw [hb'] at e3c
                clear ha hb'
                go_wp2_with (first | (go_at_call 83; refine (OF.out _).mono ?_; rintro e w6 ⟨rfl, rfl⟩) | ((with_reducible refine gate_builtin (b := .append) (xs := #[.tmp 33, .tmp 37]) rfl ?_); at_builtin; refine Kd.R_append_row (Value.int .i64) (0 : Int) (h1 := fun _ => rfl) (w0 := w2) w2.heap.size rfl (.tmp 33) (.tmp 37) 29 3 (.int .i64 0) 8 rfl Try.underlying29 info3 rfl (by decide) V9 out (XWv.part l1 a b) B _ d (fun _ => True) rfl rfl (fun _ _ => trivial) (Kd.R_alloc HO5.out _) (Kd.C_alloc (Kd.C_below HRB.out HB5.out) _) (below_alloc HB5.out _) (below_alloc HB5.out _).size (by have := HPL.out; omega) ?_; intro v103 w7 ho hb8 hg hat; have n0_ := Aside0.mk hb8; have n1_ := Aside0.mk ho; clear HO5 HB5 ho hb8 hg hat))
                go_roundw
                case rel => exact ⟨i + 1, _, _, rfl, rfl, ⟨by omega⟩, HM, n1_, n0_⟩
                case measure => simp [intOf]; omega
              · cases hp2
            · have d4b : (X.f3 == 4) = false := beq_eq_false_iff_ne.2 d4
              have hp2 := hp1
              rw [if_neg (fun h => h.elim d2 d4)] at hp2
              unfold cutOf at hp2
              split at hp2
              · rename_i hq
                obtain ⟨g1, g2, g3⟩ := hq
                obtain ⟨a, ha⟩ := Int.eq_ofNat_of_zero_le g1
                obtain ⟨b, hb'⟩ := Int.eq_ofNat_of_zero_le (Int.le_trans g1 g2)
                rw [ha, hb'] at hp2 g2
                rw [hb'] at g3
                simp only [Int.toNat_natCast] at hp2
                obtain rfl := Option.some.inj hp2
                obtain ⟨B, d, ofc, hrB, hdB⟩ := of_at a b A2 c2 l2 w (by omega) (by omega) HR2.out HC2.out
                have OF := Aside0.mk ofc
                have HRB := Aside0.mk (Kd.C_below hrB HBw.out)
                clear ofc hrB hdB hp1 hp2 g1 g2 g3
                rw [ha] at e4c
                rw [hb'] at e5c
                clear ha hb'
                go_wp2_with (first | (go_at_call 83; refine (OF.out _).mono ?_; rintro e w6 ⟨rfl, rfl⟩) | ((with_reducible refine gate_builtin (b := .append) (xs := #[.tmp 39, .tmp 43]) rfl ?_); at_builtin; refine Kd.R_append_row (Value.int .i64) (0 : Int) (h1 := fun _ => rfl) (w0 := w2) w2.heap.size rfl (.tmp 39) (.tmp 43) 29 3 (.int .i64 0) 8 rfl Try.underlying29 info3 rfl (by decide) V9 out (XWv.part l2 a b) B _ d (fun _ => True) rfl rfl (fun _ _ => trivial) (Kd.R_alloc HO5.out _) (Kd.C_alloc (Kd.C_below HRB.out HB5.out) _) (below_alloc HB5.out _) (below_alloc HB5.out _).size (by have := HPL.out; omega) ?_; intro v103 w7 ho hb8 hg hat; have n0_ := Aside0.mk hb8; have n1_ := Aside0.mk ho; clear HO5 HB5 ho hb8 hg hat))
                go_roundw
                case rel => exact ⟨i + 1, _, _, rfl, rfl, ⟨by omega⟩, HM, n1_, n0_⟩
                case measure => simp [intOf]; omega
              · cases hp2
        · rw [if_neg hpl] at hM; cases hM
      · have hb : decide ((i : Int) < (l.length : Int)) = false := decide_eq_false (by omega)
        have hM := HM.out
        rw [List.drop_eq_nil_of_le (by omega), mergeL] at hM
        obtain rfl := Option.some.inj hM
        have HO' := HO.out
        have HB' := HB.out
        clear HI HM hM HO HB
        go_wp2
        go_ret2
        exact ⟨_, rfl, Kd.R_lower HO' HBw.out.size, below_step HBw.out HB'⟩
end Go.Proofs.Ytlkgdfeeepiidaa.All
