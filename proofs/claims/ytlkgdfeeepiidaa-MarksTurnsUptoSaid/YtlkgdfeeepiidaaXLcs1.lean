/- lcs.table's 'at' and 'reckon': what they do to the memory. · lcs.reckon: the table that it makes. -/
import Derived.Test.YtlkgdfeeepiidaaF0
import Derived.IntWalk
import Derived.Test.YtlkgdfeeepiidaaLcsMath
namespace Go.Proofs.Ytlkgdfeeepiidaa.XLcs
open Go.RowKit Go.Proofs.Ytlkgdfeeepiidaa.All Go.Proofs.YtlkgdfeeepiidaaW.PrintWords Go.Proofs.YtlkgdfeeepiidaaW.PrintLast Go.Proofs.YtlkgdfeeepiidaaW.PrintMore
set_option linter.unusedVariables false
set_option linter.unusedSimpArgs false

/-- What 'at' tells: below either end of the lists nothing. -/
theorem at_left (g n m N : Nat) (A0 A1 A2 : Option Addr) (c0 c1 c2 : Nat) (i k : Int) (w : World)
    (h0 : w.cell? ⟨g, 0, none⟩ = some (.slice A0 n c0)) (hi : (n : Int) ≤ i) :
    Calls Try.prog 67 #[.pointer (some ⟨g, 0, none⟩), .int .i64 i, .int .i64 k] w fun e w' => e = .returned (.int .i64 0) ∧ ∃ q, w' = w.drewN q := by
  have hb : decide ((n : Int) ≤ i) = true := decide_eq_true hi
  go_enter Try.func67, Try.ntmps67
  go_wp2
  go_ret
  exact ⟨rfl, 0, rfl⟩
theorem at_right (g n m N : Nat) (A0 A1 A2 : Option Addr) (c0 c1 c2 : Nat) (i k : Int) (w : World)
    (h0 : w.cell? ⟨g, 0, none⟩ = some (.slice A0 n c0)) (h1 : w.cell? ⟨g, 1, none⟩ = some (.slice A1 m c1)) (hi : i < (n : Int)) (hk : (m : Int) ≤ k) :
    Calls Try.prog 67 #[.pointer (some ⟨g, 0, none⟩), .int .i64 i, .int .i64 k] w fun e w' => e = .returned (.int .i64 0) ∧ ∃ q, w' = w.drewN q := by
  have hb : decide ((n : Int) ≤ i) = false := decide_eq_false (by omega)
  have hb2 : decide ((m : Int) ≤ k) = true := decide_eq_true hk
  go_enter Try.func67, Try.ntmps67
  go_wp2
  go_ret
  exact ⟨rfl, 0, rfl⟩
theorem at_in (g n m N : Nat) (A0 A1 : Option Addr) (c0 c1 c2 h : Nat) (i k j v : Int) (w : World)
    (h0 : w.cell? ⟨g, 0, none⟩ = some (.slice A0 n c0)) (h1 : w.cell? ⟨g, 1, none⟩ = some (.slice A1 m c1)) (h2 : w.cell? ⟨g, 2, none⟩ = some (.slice (some ⟨h, 0, none⟩) N c2))
    (hi : i < (n : Int)) (hk : k < (m : Int)) (hj : IntKind.i64.wrap (wrap64 (i * (m : Int)) + k) = j) (hj0 : 0 ≤ j) (hjN : j < (N : Int)) (hv : w.cell? ⟨h, j.toNat, none⟩ = some (.int .i64 v)) :
    Calls Try.prog 67 #[.pointer (some ⟨g, 0, none⟩), .int .i64 i, .int .i64 k] w fun e w' => e = .returned (.int .i64 v) ∧ ∃ q, w' = w.drewN q := by
  have hb : decide ((n : Int) ≤ i) = false := decide_eq_false (by omega)
  have hb2 : decide ((m : Int) ≤ k) = false := decide_eq_false (by omega)
  have p1 := eq_true hj0
  have p2 := eq_true hjN
  clear hi hk hj0 hjN
  go_enter Try.func67, Try.ntmps67
  go_wp2
  go_quiet (fail)
  go_wp2
  go_ret
  exact ⟨rfl, _, rfl⟩
end Go.Proofs.Ytlkgdfeeepiidaa.XLcs
namespace Go.Proofs.Ytlkgdfeeepiidaa.XLcs
open Go.RowKit Go.Proofs.Ytlkgdfeeepiidaa.All Go.Proofs.Ytlkgdfeeepiidaa.Lcs Go.Proofs.YtlkgdfeeepiidaaW.PrintWords Go.Proofs.YtlkgdfeeepiidaaW.PrintLast Go.Proofs.YtlkgdfeeepiidaaW.PrintMore
set_option linter.unusedVariables false
set_option linter.unusedSimpArgs false

/-- The table at block g, its numbers at block h. -/
structure IsTab (w : World) (g h : Nat) (A0 : Option Addr) (c0 : Nat) (l : List Int) (A1 : Option Addr) (c1 : Nat) (m : List Int) (xs : List Int) : Prop where
  blk : w.heap[g]? = some (.cells #[.slice A0 l.length c0, .slice A1 m.length c1, .slice (some ⟨h, 0, none⟩) (l.length * m.length) (l.length * m.length)] 127 (0, 0))
  row : w.heap[h]? = some (.cells (nums .i64 xs).toArray 3 (0, 0))

theorem IsTab.drewN {w : World} {g h : Nat} {A0 : Option Addr} {c0 : Nat} {l : List Int} {A1 : Option Addr} {c1 : Nat} {m : List Int} {xs : List Int} (H : IsTab w g h A0 c0 l A1 c1 m xs) (q : Nat) : IsTab (w.drewN q) g h A0 c0 l A1 c1 m xs := ⟨H.blk, H.row⟩
theorem IsTab.drew {w : World} {g h : Nat} {A0 : Option Addr} {c0 : Nat} {l : List Int} {A1 : Option Addr} {c1 : Nat} {m : List Int} {xs : List Int} (H : IsTab w g h A0 c0 l A1 c1 m xs) : IsTab w.drew g h A0 c0 l A1 c1 m xs := ⟨H.blk, H.row⟩
theorem tab_cell {w : World} {h : Nat} {xs : List Int} (H : w.heap[h]? = some (.cells (nums .i64 xs).toArray 3 (0, 0))) (j : Nat) (hj : j < xs.length) : w.cell? ⟨h, j, none⟩ = some (.int .i64 (rd xs (j : Int))) := by
  rw [blk_cell H j]
  simp [nums, rd, List.getElem?_eq_getElem hj, List.getD_eq_getElem?_getD]

/-- 'at', at a table that is reckoned from there on. -/
theorem at_any (g h : Nat) (A0 : Option Addr) (c0 : Nat) (l : List Int) (A1 : Option Addr) (c1 : Nat) (m : List Int) (q i k : Nat) (w : World) (H : IsTab w g h A0 c0 l A1 c1 m (hadL l m q))
    (hN : l.length * m.length ≤ 35184372088832) (hi : i ≤ l.length) (hk : k ≤ m.length) (hq : q ≤ i * m.length + k) :
    Calls Try.prog 67 #[.pointer (some ⟨g, 0, none⟩), .int .i64 (i : Int), .int .i64 (k : Int)] w fun e w' => e = .returned (.int .i64 (tv l m i k : Int)) ∧ ∃ z, w' = w.drewN z := by
  obtain ⟨H1, H2⟩ := H
  have h0 : w.cell? ⟨g, 0, none⟩ = some (.slice A0 l.length c0) := (blk_cell H1 0).trans rfl
  have h1 : w.cell? ⟨g, 1, none⟩ = some (.slice A1 m.length c1) := (blk_cell H1 1).trans rfl
  have h2 : w.cell? ⟨g, 2, none⟩ = some (.slice (some ⟨h, 0, none⟩) (l.length * m.length) (l.length * m.length)) := (blk_cell H1 2).trans rfl
  rcases Nat.lt_or_ge i l.length with hil | hil
  · rcases Nat.lt_or_ge k m.length with hkm | hkm
    · have hlt : i * m.length + k < l.length * m.length := by
        have : (i + 1) * m.length ≤ l.length * m.length := Nat.mul_le_mul_right _ (by omega)
        rw [Nat.add_mul] at this; omega
      have hw : wrap64 ((i : Int) * (m.length : Int)) = ((i * m.length : Nat) : Int) := by
        rw [← Int.natCast_mul, wrap64]; omega
      have hj : IntKind.i64.wrap (wrap64 ((i : Int) * (m.length : Int)) + (k : Int)) = ((i * m.length + k : Nat) : Int) := by
        rw [hw, i64_w, wrap64]; omega
      have hc := tab_cell H2 (i * m.length + k) (by rw [hadL_length]; exact hlt)
      rw [hadL_get l m q i k hil hkm hq] at hc
      exact at_in g l.length m.length (l.length * m.length) A0 A1 c0 c1 _ h i k _ _ w h0 h1 h2 (by omega) (by omega) hj (by omega) (by omega) (by rw [Int.toNat_natCast]; exact hc)
    · rw [tv_right l m i k hkm]
      exact at_right g l.length m.length 0 A0 A1 none c0 c1 0 i k w h0 h1 (by omega) (by omega)
  · rw [tv_left l m i k hil]
    exact at_left g l.length m.length 0 A0 A1 none c0 c1 0 i k w h0 (by omega)

theorem at_int (g h : Nat) (A0 : Option Addr) (c0 : Nat) (l : List Int) (A1 : Option Addr) (c1 : Nat) (m : List Int) (q i k : Nat) (a b : Int) (w : World) (ha : a = (i : Int)) (hb : b = (k : Int))
    (hN : l.length * m.length ≤ 35184372088832) (hi : i ≤ l.length) (hk : k ≤ m.length) (hq : q ≤ i * m.length + k) (H : IsTab w g h A0 c0 l A1 c1 m (hadL l m q)) :
    Calls Try.prog 67 #[.pointer (some ⟨g, 0, none⟩), .int .i64 a, .int .i64 b] w fun e w' => e = .returned (.int .i64 (tv l m i k : Int)) ∧ ∃ z, w' = w.drewN z := by
  subst ha hb
  exact at_any g h A0 c0 l A1 c1 m q i k w H hN hi hk hq

theorem IsTab.store {w : World} {g h : Nat} {A0 : Option Addr} {c0 : Nat} {l : List Int} {A1 : Option Addr} {c1 : Nat} {m : List Int} {xs : List Int} (H : IsTab w g h A0 c0 l A1 c1 m xs) (hne : g ≠ h) (n : Nat) (v : Int) :
    IsTab (w.setCell ⟨h, n, none⟩ (.int .i64 v)) g h A0 c0 l A1 c1 m (xs.set n v) := by
  refine ⟨blk_far H.blk hne _, ?_⟩
  have := blk_set H.row n (.int .i64 v)
  rw [this]
  congr 2
  simp [nums, List.map_set]
theorem rd_get (l : List Int) (i : Nat) (h : i < l.length) : rd l (i : Int) = l[i] := by
  simp [rd, List.getD_eq_getElem?_getD, List.getElem?_eq_getElem h]
theorem step_same (l m : List Int) (n i k : Nat) (hl : l.length ≤ 35184372088832) (hil : i < l.length) (hkm : k < m.length) (Hi : i = n / m.length) (Hk : k = n % m.length) (he : rd l (i : Int) = rd m (k : Int)) :
    (hadL l m (n + 1)).set n (wrap64 ((tv l m (i + 1) (k + 1) : Int) + 1)) = hadL l m n := by
  rw [← hadL_set l m n, ← Hi, ← Hk, tv_eq l m i k hil hkm, if_pos (by rw [← rd_get l i hil, ← rd_get m k hkm, he])]
  have := tv_le l m (i + 1) (k + 1)
  congr 1
  rw [wrap64]; omega
theorem step_other (l m : List Int) (n i k : Nat) (hil : i < l.length) (hkm : k < m.length) (Hi : i = n / m.length) (Hk : k = n % m.length) (he : ¬ rd l (i : Int) = rd m (k : Int)) :
    (hadL l m (n + 1)).set n (if tv l m (i + 1) k < tv l m i (k + 1) then (tv l m i (k + 1) : Int) else (tv l m (i + 1) k : Int)) = hadL l m n := by
  have e := tv_eq l m i k hil hkm
  rw [if_neg (by rw [← rd_get l i hil, ← rd_get m k hkm]; exact he)] at e
  rw [← hadL_set l m n, ← Hi, ← Hk, e]
  congr 1
  rw [Nat.max_def]
  split <;> split <;> omega

set_option maxRecDepth 100000 in
set_option maxHeartbeats 3200000 in
theorem reckon_calls (A0 : Option Addr) (c0 : Nat) (l : List Int) (A1 : Option Addr) (c1 : Nat) (m : List Int) (w : World) (hr0 : Kd.C (Kd.int .i64) w A0 l.length l) (hc0 : l.length ≤ c0) (hr1 : Kd.C (Kd.int .i64) w A1 m.length m) (hc1 : m.length ≤ c1)
    (hN : l.length * m.length ≤ 35184372088832) (hl : l.length ≤ 35184372088832) (hm : m.length ≤ 35184372088832) :
    Calls Try.prog 66 #[.slice A0 l.length c0, .slice A1 m.length c1] w fun e w' => e = .returned (.pointer (some ⟨w.heap.size + 1, 0, none⟩)) ∧ IsTab w' (w.heap.size + 1) w.heap.size A0 c0 l A1 c1 m (hadL l m 0) ∧ Below w.heap.size w w' := by
  have hmk := print_make (P := Try.prog) 29 3 .i64 8 Try.underlying29 info3 (by omega) (l.length * m.length) (by omega)
  have hmul : IntKind.i64.wrap ((l.length : Int) * (m.length : Int)) = ((l.length * m.length : Nat) : Int) := by
    rw [← Int.natCast_mul, i64_w, wrap64]; omega
  obtain ⟨N, hNe⟩ : ∃ N, N = l.length * m.length := ⟨_, rfl⟩
  rw [← hNe] at hmk hmul hN
  have HNe := Aside0.mk hNe
  clear hNe
  go_enter Try.func66, Try.ntmps66
  go_wp2
  go_loopw [6] (fun v wr => ∃ (q : Nat) (x : Int), v = .int .i64 x ∧ Aside0 (x = (q : Int) - 1) ∧ Aside0 (q ≤ N) ∧ Aside0 (IsTab wr (w.heap.size + 1) w.heap.size A0 c0 l A1 c1 m (hadL l m q)) ∧ Aside0 (Below w.heap.size w wr)) (fun v _ => (intOf v + 1).toNat)
  case atStart =>
    refine ⟨N, (N : Int) - 1, rfl, ⟨rfl⟩, ⟨Nat.le_refl _⟩, ⟨⟨?_, ?_⟩⟩, ⟨((Below.refl _ _).alloc (Nat.le_refl _) _).alloc (by simp) _⟩⟩
    · rw [← HNe.out]
      have := heap_alloc_new (w.alloc (.cells (madeCells #[Value.int IntKind.i64 0] N) 3)) (.cells #[.slice A0 l.length c0, .slice A1 m.length c1, .slice (some ⟨w.heap.size, 0, none⟩) N N] 127)
      simpa using this
    · rw [show hadL l m N = List.replicate N 0 by rw [HNe.out, hadL_all]]
      have h1 := heap_alloc_new w (.cells (madeCells #[Value.int IntKind.i64 0] N) 3)
      have h2 := blk_alloc h1 (.cells #[.slice A0 l.length c0, .slice A1 m.length c1, .slice (some ⟨w.heap.size, 0, none⟩) N N] 127)
      rw [h2]
      congr 2
      apply Array.ext
      · simp [nums, madeCells]
      · intro i h1 h2
        simp [nums, madeCells, Nat.mod_one]
  case round =>
    obtain ⟨q, x, rfl, HX, HQ, HT, HB⟩ := hrel
    by_cases hx : 0 ≤ x
    · have hxb : decide (0 ≤ x) = true := decide_eq_true hx
      obtain ⟨n, hn⟩ : ∃ n : Nat, x = (n : Int) := ⟨x.toNat, by omega⟩
      have hq : q = n + 1 := by have := HX.out; omega
      subst hq
      subst hn
      have hnN : n < l.length * m.length := by have := HQ.out; have := HNe.out; omega
      have hM : 0 < m.length := by
        rcases Nat.eq_zero_or_pos m.length with h | h
        · rw [h] at hnN; omega
        · exact h
      obtain ⟨i, hi⟩ : ∃ i, i = n / m.length := ⟨_, rfl⟩
      obtain ⟨k, hk⟩ : ∃ k, k = n % m.length := ⟨_, rfl⟩
      have e1 : Int.tdiv (n : Int) (m.length : Int) = (i : Int) := by rw [hi]; exact Int.ofNat_tdiv _ _ |>.symm
      have e2 : Int.tmod (n : Int) (m.length : Int) = (k : Int) := by rw [hk]; exact (Int.ofNat_tmod _ _).symm
      have hil : i < l.length := by rw [hi]; exact Nat.div_lt_of_lt_mul (by rw [Nat.mul_comm]; exact hnN)
      have hkm : k < m.length := by rw [hk]; exact Nat.mod_lt _ hM
      have Hi := Aside0.mk hi
      have Hk := Aside0.mk hk
      have hM0 : ((m.length : Int) == 0) = false := beq_eq_false_iff_ne.2 (by omega)
      clear hi hk
      obtain ⟨ad0, ea0, hx0⟩ := Kd.at_int hr0 (i : Int) (by omega) (by omega)
      obtain ⟨ad1, ea1, hx1⟩ := Kd.at_int hr1 (k : Int) (by omega) (by omega)
      cases ea0
      cases ea1
      replace hx0 := pw_cell_below HB.out hx0
      replace hx1 := pw_cell_below HB.out hx1
      rw [Int.toNat_natCast] at hx0 hx1
      have p1 : ((i : Int) < (l.length : Int)) = True := eq_true (by omega)
      have p2 : ((k : Int) < (m.length : Int)) = True := eq_true (by omega)
      have p3 : (i < l.length) = True := eq_true hil
      have p4 : (k < m.length) = True := eq_true hkm
      have s1 : IntKind.i64.wrap ((i : Int) + 1) = ((i + 1 : Nat) : Int) := by rw [i64_w, wrap64]; omega
      have s2 : IntKind.i64.wrap ((k : Int) + 1) = ((k + 1 : Nat) : Int) := by rw [i64_w, wrap64]; omega
      have hNN : l.length * m.length ≤ 35184372088832 := by rw [← HNe.out]; exact hN
      have hnik : n = i * m.length + k := by rw [Hi.out, Hk.out, Nat.mul_comm]; exact (Nat.div_add_mod _ _).symm
      have hq1 : n + 1 ≤ (i + 1) * m.length + (k + 1) := by rw [Nat.add_mul]; omega
      have hq2 : n + 1 ≤ (i + 1) * m.length + k := by rw [Nat.add_mul]; omega
      have hq3 : n + 1 ≤ i * m.length + (k + 1) := by omega
      have Hnik := Aside0.mk hnik
      clear hnik
      have p5 : ((n : Int) < (N : Int)) = True := eq_true (by have := HNe.out; omega)
      have p6 : (n < N) = True := eq_true (by have := HNe.out; omega)
      have hcn : wr.cell? ⟨w.heap.size, n, none⟩ = some (.int .i64 0) := by
        rw [tab_cell HT.out.2 n (by rw [hadL_length]; exact hnN)]
        unfold rd hadL
        rw [Int.toNat_natCast, List.getD_eq_getElem?_getD, List.getElem?_map, List.getElem?_range hnN]
        simp
        intro h; omega
      have hfn : wr.frozen? ⟨w.heap.size, n, none⟩ = false := blk_frozen HT.out.2 n
      have hIT := HT.out
      have HC2 : wr.cell? ⟨w.heap.size + 1, 2, none⟩ = some (.slice (some ⟨w.heap.size, 0, none⟩) N N) := by rw [HNe.out]; exact (blk_cell HT.out.1 2).trans rfl
      go_wp2
      go_quiet (fail)
      go_wp2
      go_quiet (fail)
      by_cases he : rd l (i : Int) = rd m (k : Int)
      · have heb : (rd l (i : Int) == rd m (k : Int)) = true := beq_iff_eq.2 he
        have he' := Aside0.mk he
        clear he
        go_wp2
        go_region_held3 (fun w' => w'.cell? ⟨w.heap.size + 1, 2, none⟩ = some (.slice (some ⟨w.heap.size, 0, none⟩) N N))
          (go_keep)
          (first | (go_at_call 67; refine (at_int _ w.heap.size (some ad0) c0 l (some ad1) c1 m (n + 1) (i + 1) (k + 1) _ _ _ ?_ ?_ hNN hil hkm hq1 ?_).mono ?_; (first | rfl | simp); (first | rfl | simp); (repeat (first | assumption | apply IsTab.drewN | apply IsTab.drew)); rintro e w' ⟨rfl, z, rfl⟩))
        go_wp2
        go_roundw
        case rel => exact ⟨n, (n : Int) - 1, rfl, ⟨rfl⟩, ⟨by have := HQ.out; omega⟩, ⟨by rw [← step_same l m n i k hl hil hkm Hi.out Hk.out he'.out]; exact IsTab.store (hIT.drewN _) (by omega) n _⟩, ⟨Below.setCell (pw_below_drewN HB.out _) (Nat.le_refl _) _⟩⟩
        case measure => simp [intOf]
      · have heb : (rd l (i : Int) == rd m (k : Int)) = false := beq_eq_false_iff_ne.2 he
        have he' := Aside0.mk he
        clear he
        go_wp2
        go_region_held3 (fun w' => w'.cell? ⟨w.heap.size + 1, 2, none⟩ = some (.slice (some ⟨w.heap.size, 0, none⟩) N N))
          (go_keep)
          (first
            | (go_at_call 67; refine (at_int _ w.heap.size (some ad0) c0 l (some ad1) c1 m (n + 1) (i + 1) k _ _ _ ?_ ?_ hNN hil (Nat.le_of_lt hkm) hq2 ?_).mono ?_; (first | rfl | (simp; done)); (first | rfl | (simp; done)); (repeat (first | assumption | apply IsTab.drewN | apply IsTab.drew)); rintro e w' ⟨rfl, z, rfl⟩)
            | (go_at_call 67; refine (at_int _ w.heap.size (some ad0) c0 l (some ad1) c1 m (n + 1) i (k + 1) _ _ _ ?_ ?_ hNN (Nat.le_of_lt hil) hkm hq3 ?_).mono ?_; (first | rfl | (simp; done)); (first | rfl | (simp; done)); (repeat (first | assumption | apply IsTab.drewN | apply IsTab.drew)); rintro e w' ⟨rfl, z, rfl⟩))
        go_wp2
        go_roundw
        case rel => exact ⟨n, (n : Int) - 1, rfl, ⟨rfl⟩, ⟨by have := HQ.out; omega⟩, ⟨by rw [← step_other l m n i k hil hkm Hi.out Hk.out he'.out]; exact IsTab.store (hIT.drewN _) (by omega) n _⟩, ⟨Below.setCell (pw_below_drewN HB.out _) (Nat.le_refl _) _⟩⟩
        case measure => simp [intOf]
    · have hxb : decide (0 ≤ x) = false := decide_eq_false hx
      have hq0 : q = 0 := by have := HX.out; omega
      subst hq0
      have hT := HT.out
      have hB := HB.out
      clear HT HB HX HQ
      go_wp2
      go_ret
      exact ⟨rfl, hT, hB⟩
end Go.Proofs.Ytlkgdfeeepiidaa.XLcs
