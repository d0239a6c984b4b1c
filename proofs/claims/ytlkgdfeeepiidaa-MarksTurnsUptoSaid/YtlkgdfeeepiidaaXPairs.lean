/- lcs.table's iterator 'pairs': it tells the places of both lists, one by one, to every loop body that leaves the table and the lists as they lie. · lcs.Pairs: it tells the places at which both lists have the same, from the left. -/
import Derived.Test.YtlkgdfeeepiidaaXLcs1
import Derived.RangeFuncNested
import Derived.RangeFuncBound
import Derived.RangeFuncCalls
import Derived.RangeFuncLeaves
import Derived.Shelf.Abstract
import Derived.WalkKit
import Derived.OwnWalkIn
import Derived.TacticsInMore
import Derived.LoopNIn
import Derived.LoopIn
import Derived.Maps.AppendAt
import Derived.Sort.QuietIn
namespace Go.Proofs.Ytlkgdfeeepiidaa.XLcs
open Go.RowKit Go.Proofs.Ytlkgdfeeepiidaa.All Go.Proofs.Ytlkgdfeeepiidaa.Lcs Go.Proofs.YtlkgdfeeepiidaaW.PrintWords Go.Proofs.YtlkgdfeeepiidaaW.PrintLast Go.Proofs.YtlkgdfeeepiidaaW.PrintMore
set_option linter.unusedVariables false
set_option linter.unusedSimpArgs false
attribute [local go_sem] Oper.semAt_some
theorem wide_fn (f : Nat) : Fence.wide.fn f := trivial
attribute [local go_sem] wide_fn

/-- What a round that goes on keeps: all blocks below n1 but B0. -/
structure Kp (n1 B0 : Nat) (W W' : World) : Prop where
  size : W.heap.size ≤ W'.heap.size
  same : ∀ i, i < n1 → i ≠ B0 → W'.heap[i]? = W.heap[i]?
theorem Kp.refl (n1 B0 : Nat) (W : World) : Kp n1 B0 W W := ⟨Nat.le_refl _, fun _ _ _ => rfl⟩
theorem Kp.trans {n1 B0 : Nat} {A B C : World} (h : Kp n1 B0 A B) (k : Kp n1 B0 B C) : Kp n1 B0 A C :=
  ⟨Nat.le_trans h.size k.size, fun i hi hn => (k.same i hi hn).trans (h.same i hi hn)⟩
theorem Kp.putObj {n1 B0 : Nat} {N : Nat} (hN : n1 ≤ N) : ∀ (W : World) (l : Nat) (o o' : Obj), N ≤ l → W.heap[l]? = some o → o.isCells = false → o.isWalk = false → Kp n1 B0 W (W.putObj l o') :=
  fun W l o o' hl ho _ _ => ⟨by simp [World.putObj], fun i hi _ => by simp [World.putObj]; exact Array.getElem?_setIfInBounds_ne (by omega)⟩
theorem Kp.cell {n1 B0 : Nat} {W W' : World} (h : Kp n1 B0 W W') {p : Addr} (hp : p.block < n1) (hne : p.block ≠ B0) : W'.cell? p = W.cell? p := by
  simp only [World.cell?, h.same _ hp hne]

/-- What the iterator reads. -/
structure Reads (W : World) (n1 B0 Bt g h : Nat) (A0 : Option Addr) (c0 : Nat) (l : List Int) (A1 : Option Addr) (c1 : Nat) (m : List Int) : Prop where
  tab : IsTab W g h A0 c0 l A1 c1 m (hadL l m 0)
  box : W.heap[Bt]? = some (.cells #[.pointer (some ⟨g, 0, none⟩)] 87 (0, 0))
  rowA : ∀ j, j < l.length → ∃ ad, A0 = some ad ∧ ad.block < n1 ∧ ad.block ≠ B0 ∧ W.cell? (ad.add j) = some (.int .i64 (rd l (j : Int)))
  rowB : ∀ j, j < m.length → ∃ ad, A1 = some ad ∧ ad.block < n1 ∧ ad.block ≠ B0 ∧ W.cell? (ad.add j) = some (.int .i64 (rd m (j : Int)))
  hg : g < n1 ∧ g ≠ B0
  hh : h < n1 ∧ h ≠ B0
  hBt : Bt < n1 ∧ Bt ≠ B0
theorem add_block (ad : Addr) (j : Nat) : (ad.add j).block = ad.block := by unfold Addr.add; split <;> rfl
theorem Reads.keep {W W' : World} {n1 B0 Bt g h : Nat} {A0 : Option Addr} {c0 : Nat} {l : List Int} {A1 : Option Addr} {c1 : Nat} {m : List Int} (H : Reads W n1 B0 Bt g h A0 c0 l A1 c1 m) (k : Kp n1 B0 W W') :
    Reads W' n1 B0 Bt g h A0 c0 l A1 c1 m :=
  ⟨⟨(k.same _ H.hg.1 H.hg.2).trans H.tab.blk, (k.same _ H.hh.1 H.hh.2).trans H.tab.row⟩, (k.same _ H.hBt.1 H.hBt.2).trans H.box,
   fun j hj => by obtain ⟨ad, e, h1, h2, h3⟩ := H.rowA j hj; exact ⟨ad, e, h1, h2, (k.cell (by rw [add_block]; exact h1) (by rw [add_block]; exact h2)).trans h3⟩,
   fun j hj => by obtain ⟨ad, e, h1, h2, h3⟩ := H.rowB j hj; exact ⟨ad, e, h1, h2, (k.cell (by rw [add_block]; exact h1) (by rw [add_block]; exact h2)).trans h3⟩,
   H.hg, H.hh, H.hBt⟩

set_option maxRecDepth 100000 in
set_option maxHeartbeats 3200000 in
theorem pairs1_in (l' : Nat) (n1 B0 Bt g h : Nat) (A0 : Option Addr) (c0 : Nat) (l : List Int) (A1 : Option Addr) (c1 : Nat) (m : List Int) (hl : l.length ≤ 4000000) (hm : m.length ≤ 4000000) (n : Nat) (hn : 3 ≤ n)
    (J Jx : List (Nat × Nat) → World → Prop) (W : World) (HR : Reads W n1 B0 Bt g h A0 c0 l A1 c1 m)
    (hY : ∀ pre x W, J pre W → pre.length < (prs l m 0 0).length → YieldAt Fence.wide (n - 1) Try.prog l' #[.agg #[.int .i64 (x.1 : Int), .int .i64 (x.2 : Int)]] W fun e W' =>
      (e = .returned (.bool true) ∧ J (pre ++ [x]) W' ∧ Kp n1 B0 W W') ∨ (e = .returned (.bool false) ∧ Jx (pre ++ [x]) W'))
    (hJd : ∀ pre W q, J pre W → J pre (W.drewN q)) (h0 : J [] W) :
    CallsIn Fence.wide n Try.prog 92 #[.func (.yield l') #[] #[], .pointer (some ⟨Bt, 0, none⟩)] W fun e W' => (∃ v, e = .returned v) ∧
      ((∃ ys, ys = prs l m 0 0 ∧ J ys W') ∨ (∃ pre, pre <+: prs l m 0 0 ∧ Jx pre W')) := by
  have hN : l.length * m.length ≤ 35184372088832 := Nat.le_trans (Nat.mul_le_mul hl hm) (by omega)
  refine callsIn_of_wp Try.func92 rfl trivial ?_ rfl
  simp only [Try.ntmps92, List.size_toArray, List.length_cons, List.length_nil, Nat.reduceAdd, Nat.reduceSub, Array.replicate_succ, Array.replicate_zero, List.push_toArray, List.append_toArray, List.nil_append, List.cons_append]
  have HR0 := Aside0.mk HR
  clear HR
  gi_wp2
  gi_loopw [3, 4] (fun v3 v4 wr => ∃ (i k : Nat) (pre : List (Nat × Nat)), v3 = .int .i64 (i : Int) ∧ v4 = .int .i64 (k : Int) ∧ Aside0 (i ≤ l.length ∧ k ≤ m.length) ∧ Aside0 (pre ++ prs l m i k = prs l m 0 0) ∧ Aside0 (J pre wr) ∧ Aside0 (Kp n1 B0 W wr))
    (fun v3 v4 _ => (l.length - (intOf v3).toNat) + (m.length - (intOf v4).toNat))
  case atStart => exact ⟨0, 0, [], rfl, rfl, ⟨Nat.zero_le _, Nat.zero_le _⟩, ⟨by simp⟩, ⟨h0⟩, ⟨Kp.refl _ _ _⟩⟩
  case round =>
    obtain ⟨i, k, pre, rfl, rfl, HI, HP, HJ, HK⟩ := hrel
    have HR := Aside0.mk (HR0.out.keep HK.out)
    have cb := blk_cell HR.out.box 0
    have cg0 := blk_cell HR.out.tab.blk 0
    have cg1 := blk_cell HR.out.tab.blk 1
    simp only [List.getElem?_toArray, List.getElem?_cons_zero, List.getElem?_cons_succ] at cb cg0 cg1
    by_cases hi : i < l.length
    · have hib : decide ((i : Int) < (l.length : Int)) = true := decide_eq_true (by omega)
      by_cases hk : k < m.length
      · have hkb : decide ((k : Int) < (m.length : Int)) = true := decide_eq_true (by omega)
        obtain ⟨ad0, ea0, _, _, hx0⟩ := HR.out.rowA i hi
        obtain ⟨ad1, ea1, _, _, hx1⟩ := HR.out.rowB k hk
        cases ea0
        cases ea1
        have p1 : ((i : Int) < (l.length : Int)) = True := eq_true (by omega)
        have p2 : ((k : Int) < (m.length : Int)) = True := eq_true (by omega)
        have p3 : (i < l.length) = True := eq_true hi
        have p4 : (k < m.length) = True := eq_true hk
        have s1 : IntKind.i64.wrap ((i : Int) + 1) = ((i + 1 : Nat) : Int) := by rw [i64_w, wrap64]; omega
        have s2 : IntKind.i64.wrap ((k : Int) + 1) = ((k + 1 : Nat) : Int) := by rw [i64_w, wrap64]; omega
        have hT := HR.out.tab
        gi_wp2
        gi_quiet (fail)
        by_cases he : rd l (i : Int) = rd m (k : Int)
        · have heb : (rd l (i : Int) == rd m (k : Int)) = true := beq_iff_eq.2 he
          have hee : l[i] = m[k] := by rw [← rd_get l i hi, ← rd_get m k hk]; exact he
          have hpp := prs_same l m i k hi hk hee
          have Hpp := Aside0.mk hpp
          clear he hpp hee
          obtain ⟨fn, tmps, assign, body, hy, hR⟩ := hY pre (i, k) (wr.drewN nq) (hJd _ _ _ HJ.out) (by have := HP.out; rw [Hpp.out] at this; rw [← this]; simp)
          dsimp only at hy
          gi_wp2
          refine ⟨fun _ => by omega, hR.mono ?_⟩
          rintro e W3 (⟨rfl, hJ3, hk3⟩ | ⟨rfl, hJx3⟩)
          · have hJ3' := Aside0.mk hJ3
            have hk3' := Aside0.mk hk3
            clear hJ3 hk3 hy hR
            gi_wp2
            go_roundw
            case rel => exact ⟨i + 1, k + 1, pre ++ [(i, k)], by simp, by simp, ⟨by omega⟩, ⟨by have := HP.out; rw [Hpp.out] at this; simpa using this⟩, hJ3', ⟨HK.out.trans ((show Kp n1 B0 wr (wr.drewN nq) from ⟨Nat.le_refl _, fun _ _ _ => rfl⟩).trans hk3'.out)⟩⟩
            case measure => simp [intOf]; omega
          · gi_wp2
            refine bodyPost_ret (results_none rfl _ _ _) rfl ?_
            exact ⟨⟨_, rfl⟩, .inr ⟨pre ++ [(i, k)], ⟨prs l m (i + 1) (k + 1), by have := HP.out; rw [Hpp.out] at this; simpa using this⟩, hJx3⟩⟩
        · have heb : (rd l (i : Int) == rd m (k : Int)) = false := beq_eq_false_iff_ne.2 he
          have hee : ¬ l[i] = m[k] := by rw [← rd_get l i hi, ← rd_get m k hk]; exact he
          have Hee := Aside0.mk hee
          clear he hee
          have q1 : (0 : Nat) ≤ (i + 1) * m.length + k := Nat.zero_le _
          by_cases hv : tv l m i (k + 1) ≤ tv l m (i + 1) k
          · have hvb : decide (tv l m i (k + 1) ≤ tv l m (i + 1) k) = true := decide_eq_true hv
            have hvb2 : decide ((tv l m i (k + 1) : Int) ≤ (tv l m (i + 1) k : Int)) = true := decide_eq_true (by omega)
            have Hpp := Aside0.mk (prs_down l m i k hi hk Hee.out hv)
            clear hv
            gi_wp2
            gi_quiet (first
              | ((try refine ⟨fun _ => by omega, ?_⟩); gi_at_call 67; refine (callsIn_wide.2 (at_int g h (some ad0) c0 l (some ad1) c1 m 0 (i + 1) k _ _ _ ?_ ?_ hN hi (Nat.le_of_lt hk) (Nat.zero_le _) ?_)).mono ?_; (first | rfl | (simp; done)); (first | rfl | (simp; done)); (repeat (first | assumption | apply IsTab.drewN | apply IsTab.drew)); rintro e w2 ⟨rfl, z, rfl⟩; exact ⟨rfl, _, by rw [World.drewN_drewN, Nat.add_assoc]⟩)
              | ((try refine ⟨fun _ => by omega, ?_⟩); gi_at_call 67; refine (callsIn_wide.2 (at_int g h (some ad0) c0 l (some ad1) c1 m 0 i (k + 1) _ _ _ ?_ ?_ hN (Nat.le_of_lt hi) hk (Nat.zero_le _) ?_)).mono ?_; (first | rfl | (simp; done)); (first | rfl | (simp; done)); (repeat (first | assumption | apply IsTab.drewN | apply IsTab.drew)); rintro e w2 ⟨rfl, z, rfl⟩; exact ⟨rfl, _, by rw [World.drewN_drewN, Nat.add_assoc]⟩))
            gi_wp2
            go_roundw
            case rel => exact ⟨i + 1, k, pre, by simp, rfl, ⟨by omega⟩, ⟨by have := HP.out; rw [Hpp.out] at this; exact this⟩, ⟨hJd _ _ _ HJ.out⟩, ⟨HK.out.trans ⟨Nat.le_refl _, fun _ _ _ => rfl⟩⟩⟩
            case measure => simp [intOf]; omega
          · have hvb : decide (tv l m i (k + 1) ≤ tv l m (i + 1) k) = false := decide_eq_false hv
            have hvb2 : decide ((tv l m i (k + 1) : Int) ≤ (tv l m (i + 1) k : Int)) = false := decide_eq_false (by omega)
            have Hpp := Aside0.mk (prs_right l m i k hi hk Hee.out hv)
            clear hv
            gi_wp2
            gi_quiet (first
              | ((try refine ⟨fun _ => by omega, ?_⟩); gi_at_call 67; refine (callsIn_wide.2 (at_int g h (some ad0) c0 l (some ad1) c1 m 0 (i + 1) k _ _ _ ?_ ?_ hN hi (Nat.le_of_lt hk) (Nat.zero_le _) ?_)).mono ?_; (first | rfl | (simp; done)); (first | rfl | (simp; done)); (repeat (first | assumption | apply IsTab.drewN | apply IsTab.drew)); rintro e w2 ⟨rfl, z, rfl⟩; exact ⟨rfl, _, by rw [World.drewN_drewN, Nat.add_assoc]⟩)
              | ((try refine ⟨fun _ => by omega, ?_⟩); gi_at_call 67; refine (callsIn_wide.2 (at_int g h (some ad0) c0 l (some ad1) c1 m 0 i (k + 1) _ _ _ ?_ ?_ hN (Nat.le_of_lt hi) hk (Nat.zero_le _) ?_)).mono ?_; (first | rfl | (simp; done)); (first | rfl | (simp; done)); (repeat (first | assumption | apply IsTab.drewN | apply IsTab.drew)); rintro e w2 ⟨rfl, z, rfl⟩; exact ⟨rfl, _, by rw [World.drewN_drewN, Nat.add_assoc]⟩))
            gi_wp2
            go_roundw
            case rel => exact ⟨i, k + 1, pre, rfl, by simp, ⟨by omega⟩, ⟨by have := HP.out; rw [Hpp.out] at this; exact this⟩, ⟨hJd _ _ _ HJ.out⟩, ⟨HK.out.trans ⟨Nat.le_refl _, fun _ _ _ => rfl⟩⟩⟩
            case measure => simp [intOf]; omega
      · have hkb : decide ((k : Int) < (m.length : Int)) = false := decide_eq_false (by omega)
        have hend := prs_end l m i k (by omega)
        have Hend := Aside0.mk hend
        clear hend
        gi_wp2
        go_end0
        exact ⟨⟨_, rfl⟩, .inl ⟨pre, by have := HP.out; rw [Hend.out] at this; simpa using this, HJ.out⟩⟩
    · have hib : decide ((i : Int) < (l.length : Int)) = false := decide_eq_false (by omega)
      have hend := prs_end l m i k (by omega)
      have Hend := Aside0.mk hend
      clear hend
      gi_wp2
      go_end0
      exact ⟨⟨_, rfl⟩, .inl ⟨pre, by have := HP.out; rw [Hend.out] at this; simpa using this, HJ.out⟩⟩
end Go.Proofs.Ytlkgdfeeepiidaa.XLcs
namespace Go.Proofs.Ytlkgdfeeepiidaa.XLcs
open Go.RowKit Go.Proofs.Ytlkgdfeeepiidaa.All Go.Proofs.Ytlkgdfeeepiidaa.Lcs Go.Proofs.YtlkgdfeeepiidaaW.PrintWords Go.Proofs.YtlkgdfeeepiidaaW.PrintLast Go.Proofs.YtlkgdfeeepiidaaW.PrintMore
set_option linter.unusedVariables false
set_option linter.unusedSimpArgs false
attribute [local go_sem] Oper.semAt_some wide_fn

theorem pairs_makes (p : Option Addr) (w : World) :
    Calls Try.prog 69 #[.pointer p] w fun e w' => e = .returned (.func (.func 92) #[] #[.pointer (some ⟨w.heap.size, 0, none⟩)]) ∧ w' = w.alloc (.cells #[.pointer p] 87) := by
  go_enter Try.func69, Try.ntmps69
  go_wp2
  go_ret
  exact ⟨rfl, rfl⟩

theorem grownBy_drewN (W : World) (q : Nat) : W.grownBy (W.drewN q) none := ⟨rfl, rfl, rfl, Nat.le_refl _, fun _ _ _ => rfl⟩

theorem pairs_stops (n1 B0 Bt g h : Nat) (A0 : Option Addr) (c0 : Nat) (l : List Int) (A1 : Option Addr) (c1 : Nat) (m : List Int) (hl : l.length ≤ 4000000) (hm : m.length ≤ 4000000) (n : Nat) (hn : 3 ≤ n) (w : World) (hn1 : n1 ≤ w.heap.size)
    (HR : Reads w n1 B0 Bt g h A0 c0 l A1 c1 m) :
    SeqStopsK Fence.wide n Try.prog 92 #[.pointer (some ⟨Bt, 0, none⟩)] (fun x : Nat × Nat => #[.agg #[.int .i64 (x.1 : Int), .int .i64 (x.2 : Int)]]) (Kp n1 B0) (fun ys => ys = prs l m 0 0) (fun pre => pre <+: prs l m 0 0) (prs l m 0 0).length w :=
  fun l' J Jx W hW hJ hJx hY h0 => by
    have hk : Kp n1 B0 w W := ⟨hW.size, fun i hi _ => hW.block i (by omega)⟩
    refine pairs1_in l' n1 B0 Bt g h A0 c0 l A1 c1 m hl hm n hn J Jx W (HR.keep hk) hY (fun pre W' q hj => hJ pre W' _ none hj (grownBy_drewN W' q) (fun r e => by cases e)) h0

/-- The pairs as values' own type. -/
def P55 (x : Nat × Nat) : S55 := ⟨(x.1 : Int), (x.2 : Int)⟩
def cellsP (ps : List (Nat × Nat)) : List Value := ps.flatMap fun x => [.int .i64 (x.1 : Int), .int .i64 (x.2 : Int)]
theorem cellsP_snoc (ps : List (Nat × Nat)) (x : Nat × Nat) : cellsP (ps ++ [x]) = cellsP ps ++ [.int .i64 (x.1 : Int), .int .i64 (x.2 : Int)] := by simp [cellsP]
theorem cellsP_length (ps : List (Nat × Nat)) : (cellsP ps).length = ps.length * 2 := by
  induction ps with
  | nil => rfl
  | cons x ps ih => simp [cellsP] at ih ⊢; omega
theorem cellsP_at (ps : List (Nat × Nat)) (j : Nat) (p : Nat × Nat) (h : ps[j]? = some p) : ((cellsP ps).drop (j * 2)).take 2 = [.int .i64 (p.1 : Int), .int .i64 (p.2 : Int)] := by
  induction ps generalizing j with
  | nil => simp at h
  | cons x ps ih =>
    cases j with
    | zero => simp at h; subst h; simp [cellsP]
    | succ j =>
      have := ih j (by simpa using h)
      rw [← this]
      have e : (j + 1) * 2 = j * 2 + 2 := by omega
      rw [e]
      simp [cellsP]
theorem R_of_own {w : World} {base : Nat} {v : Value} {ps : List (Nat × Nat)} (h : w.ownsRow base 55 2 v ps.length (cellsP ps)) : Kd.R k55 55 w base (fun _ => True) v (ps.map P55) := by
  refine ⟨fun _ _ => trivial, cellsP ps, by rw [List.length_map]; exact h, ?_, ?_⟩
  · simp [cellsP_length]; rfl
  · intro j p hj
    simp only [List.getElem?_map, Option.map_eq_some_iff] at hj
    obtain ⟨x, hx, rfl⟩ := hj
    have := cellsP_at ps j x hx
    show k55.M w base _ (P55 x) (((cellsP ps).drop (j * 2)).take 2)
    rw [this]
    exact k55_mkM _ _ _ _
theorem kp_append {n1 B0 : Nat} {W w1 : World} {tmp : Obj} {v v' : Value} {k : Nat} {xs : List Value} (h1 : n1 ≤ W.heap.size) (hrow : W.ownsRow n1 55 2 v k xs) (hg : (W.alloc tmp).grownBy w1 v.ownBlock) :
    Kp n1 B0 W (w1.setCell ⟨B0, 0, none⟩ v') := by
  have hs := hg.size
  rw [World.size_alloc] at hs
  refine ⟨by simp; omega, fun i hi hne => ?_⟩
  have e1 : (w1.setCell ⟨B0, 0, none⟩ v').heap[i]? = w1.heap[i]? := Below.heap_setCell _ _ _ i hne
  have e2 : w1.heap[i]? = (W.alloc tmp).heap[i]? := hg.block i (by simp; omega) (fun e => by have := own_base hrow i e.symm; omega)
  rw [e1, e2, Below.heap_alloc W tmp i (by omega)]

set_option maxRecDepth 100000 in
set_option maxHeartbeats 3200000 in
theorem Pairs_in (A0 : Option Addr) (c0 : Nat) (l : List Int) (A1 : Option Addr) (c1 : Nat) (m : List Int) (hl : l.length ≤ 4000000) (hm : m.length ≤ 4000000) (w : World)
    (hr0 : Kd.C (Kd.int .i64) w A0 l.length l) (hc0 : l.length ≤ c0) (hr1 : Kd.C (Kd.int .i64) w A1 m.length m) (hc1 : m.length ≤ c1) :
    CallsIn Fence.wide 9 Try.prog 35 #[.slice A0 l.length c0, .slice A1 m.length c1] w fun e w' => ∃ v, e = .returned v ∧ w'.ownsRow w.heap.size 55 2 v (prs l m 0 0).length (cellsP (prs l m 0 0)) ∧ Below w.heap.size w w' := by
  have hN : l.length * m.length ≤ 35184372088832 := Nat.le_trans (Nat.mul_le_mul hl hm) (by omega)
  have hplen : (prs l m 0 0).length ≤ l.length := by rw [prs_length]; exact tv_le l m 0 0
  have hb0 : Below w.heap.size w (w.alloc (.cells #[.slice none 0 0] 36)) := (Below.refl _ w).alloc (Nat.le_refl _) _
  have hR := reckon_calls A0 c0 l A1 c1 m (w.alloc (.cells #[.slice none 0 0] 36)) (Kd.C_below hr0 hb0) hc0 (Kd.C_below hr1 hb0) hc1 hN (by omega) (by omega)
  rw [World.size_alloc] at hR
  refine callsIn_of_wp_marks Try.func35 rfl trivial ?_ rfl
  simp only [Try.ntmps35, List.size_toArray, List.length_cons, List.length_nil, Nat.reduceAdd, Nat.reduceSub, Array.replicate_succ, Array.replicate_zero, List.push_toArray, List.append_toArray, List.nil_append, List.cons_append]
  gi_wp2_with (first
    | (gi_at_call 66; refine (callsIn_wide.2 hR).mono ?_; rintro e w1 ⟨rfl, hT, hB⟩; clear hR)
    | (gi_at_call 69; refine (callsIn_wide.2 (pairs_makes _ _)).mono ?_; rintro e w2 ⟨rfl, rfl⟩))
  have hBw : Below w.heap.size w w1 := below_then hb0 (by simp) (by simpa using hB)
  have lg : w.heap.size + 1 + 1 < w1.heap.size := blk_lt hT.blk
  have bO1 : w1.heap[w.heap.size]? = some (.cells #[.slice none 0 0] 36 (0, 0)) := (hB.block w.heap.size (by simp)).trans (heap_alloc_new w _)
  have hB0 : Below w.heap.size w (w1.alloc (.cells #[.pointer (some ⟨w.heap.size + 1 + 1, 0, none⟩)] 87)) := hBw.alloc hBw.size _
  have HR : Reads (w1.alloc (.cells #[.pointer (some ⟨w.heap.size + 1 + 1, 0, none⟩)] 87)) (w1.heap.size + 1) w.heap.size w1.heap.size (w.heap.size + 1 + 1) (w.heap.size + 1) A0 c0 l A1 c1 m := by
    refine ⟨⟨blk_alloc hT.blk _, blk_alloc hT.row _⟩, heap_alloc_new w1 _, fun j hj => ?_, fun j hj => ?_, ⟨by omega, by omega⟩, ⟨by omega, by omega⟩, ⟨by omega, by omega⟩⟩
    · obtain ⟨ad, e, hx⟩ := Kd.at_int hr0 (j : Int) (by omega) (by omega)
      rw [Int.toNat_natCast] at hx
      have hlt := World.block_lt_of_cell? w _ hx
      have := hBw.size
      rw [add_block] at hlt
      exact ⟨ad, e, by omega, by omega, pw_cell_below hB0 hx⟩
    · obtain ⟨ad, e, hx⟩ := Kd.at_int hr1 (j : Int) (by omega) (by omega)
      rw [Int.toNat_natCast] at hx
      have hlt := World.block_lt_of_cell? w _ hx
      have := hBw.size
      rw [add_block] at hlt
      exact ⟨ad, e, by omega, by omega, pw_cell_below hB0 hx⟩
  have bO : Boxed (w1.alloc (.cells #[.pointer (some ⟨w.heap.size + 1 + 1, 0, none⟩)] 87)) w.heap.size 36 (.slice none 0 0) := blk_alloc bO1 _
  have hsz : (w1.alloc (.cells #[.pointer (some ⟨w.heap.size + 1 + 1, 0, none⟩)] 87)).heap.size = w1.heap.size + 1 := by simp
  obtain ⟨W0, hW0⟩ : ∃ W0, w1.alloc (.cells #[.pointer (some ⟨w.heap.size + 1 + 1, 0, none⟩)] 87) = W0 := ⟨_, rfl⟩
  obtain ⟨Bt, hBt⟩ : ∃ Bt, w1.heap.size = Bt := ⟨_, rfl⟩
  rw [hW0] at HR bO hB0 hsz ⊢
  rw [hBt] at HR hsz lg ⊢
  clear hW0 hT hBw bO1 hB hr0 hr1 hb0 hBt
  obtain ⟨i0, hi, hz0, hz1, hz2⟩ := info_parts (show (Try.prog.info? 55).map (fun i => (i.zero, i.size, i.bytes)) = some (some (.agg #[.int .i64 0, .int .i64 0]), 2, 16) by kernel_rfl)
  refine wpIn_rangeFunc_ownH (α := Nat × Nat) rfl (by omega) (gf := 92) (lb := #[.pointer (some ⟨Bt, 0, none⟩)]) rfl trivial (enters_of Try.func92 (by kernel_rfl) rfl)
    (pairs_stops (Bt + 1) w.heap.size Bt (w.heap.size + 1 + 1) (w.heap.size + 1) A0 c0 l A1 c1 m hl hm 8 (by omega) W0 (by omega) HR) Kp.trans (Kp.putObj (by omega)) (Below.refl _ _) (fun _ => rfl)
    (fun pre W => ((∃ v, Boxed W w.heap.size 36 v ∧ W.ownsRow (Bt + 1) 55 2 v pre.length (cellsP pre) ∧ True) ∧ Below w.heap.size w W) ∧ Bt + 1 ≤ W.heap.size)
    (fun _ _ _ => False)
    (OwnFrom.and (OwnFrom.and (Own.from (holdsRow_own (Bt + 1) w.heap.size 36 55 2 (fun pre : List (Nat × Nat) => pre.length) (fun pre => cellsP pre) (fun _ _ => True)) _) (ownFrom_below (Nat.le_refl _) (by omega))) (fun _ _ _ _ hs hg _ => Nat.le_trans hs hg.size))
    (fun _ _ _ _ _ hs _ _ => hs)
    ⟨⟨⟨_, bO, World.ownsRow_nil _ _ _ _, trivial⟩, hB0⟩, by omega⟩
    (fun x a' W => ∃ Bx, W.heap[Bx]? = some (.cells #[.int .i64 (x.1 : Int), .int .i64 (x.2 : Int)] 55 (0, 0)) ∧ a' = { tmps := #[.slice A0 l.length c0, .slice A1 m.length c1, undef, undef, .slice none 0 0, .pointer (some ⟨w.heap.size, 0, none⟩), .pointer (some ⟨Bx, 0, none⟩), .slice A0 l.length c0, .slice A1 m.length c1, .pointer (some ⟨w.heap.size + 1 + 1, 0, none⟩), .func (.func 92) #[] #[.pointer (some ⟨Bt, 0, none⟩)], .agg #[.int .i64 (x.1 : Int), .int .i64 (x.2 : Int)], undef, undef, undef, undef, undef], defers := [] })
    (fun x a' _ X Y row hs hg hr => by
      obtain ⟨Bx, h2, h3⟩ := hs
      refine ⟨Bx, blk_grown h2 hg (fun e => ?_), h3⟩
      obtain ⟨_, o, ho, hc⟩ := hr Bx e.symm
      rw [h2] at ho; cases ho; cases hc)
    ?assign ?body ?done ?stop
  case assign =>
    rintro l' pre x W K ⟨⟨⟨v, hv, hrow, _⟩, hBW⟩, hn1⟩ hK
    gi_wp2
    exact hK _ _ ((KeepsOthers.alloc _ _).from _) ⟨by simp, fun i hi _ => Below.heap_alloc W _ i (by omega)⟩ ⟨⟨⟨v, hv.alloc _, hrow.alloc _, trivial⟩, hBW.alloc hBW.size _⟩, by simp; omega⟩ ⟨W.heap.size, heap_alloc_new W _, rfl⟩
  case body =>
    rintro l' pre x a' W hl' ⟨r, hr⟩ ⟨⟨⟨v, hv, hrow, _⟩, hBW⟩, hn1⟩ ⟨Bx, hBx, rfl⟩ hlt
    have hc := hv.cell
    have hx0 := blk_cell hBx 0
    have hx1 := blk_cell hBx 1
    simp only [List.getElem?_toArray, List.getElem?_cons_zero, List.getElem?_cons_succ] at hx0 hx1
    have hpl : pre.length ≤ 4000000 := by omega
    have hBs := hBW.size
    gi_wp2_with (gi_at_builtin; refine wpListIn_append_own _ rfl _ _ 36 rfl (Bt + 1) 55 i0 (.agg #[.int .i64 0, .int .i64 0]) 2 16 Try.underlying36 hi hz0 hz1 hz2 rfl (by decide) _ _ _ rfl (hrow.alloc _) ⟨W.heap.size, 0, none⟩ 1 1 [.int .i64 (x.1 : Int), .int .i64 (x.2 : Int)] rfl rfl (World.news_of_block (cs := #[.int .i64 (x.1 : Int), .int .i64 (x.2 : Int)]) (t := 55) (fr := (0, 0)) (heap_alloc_new W _)) (by simp [Value.oneCell']) (by unfold maxLen; omega) (by omega) (by simp; omega) ?_; intro v' w2 hown' hgrow _; obtain ⟨g', cap', rfl⟩ := ownsRow_succ hown'; obtain ⟨hv1, hv2, hr2, hk2, hb2⟩ := hv.appended (by decide) (own_weaken hrow (show w.heap.size ≤ Bt + 1 by omega)) hBs (Nat.le_refl _) (own_weaken hown' (show w.heap.size ≤ Bt + 1 by omega)) hgrow; have hkp := kp_append (B0 := w.heap.size) (v' := (.slice (some ⟨g', 0, none⟩) (pre.length + 1) cap')) hn1 hrow hgrow; have hrow2 := hown'.kept (grownBy_setCell' w2 w.heap.size (.slice (some ⟨g', 0, none⟩) (pre.length + 1) cap')) (.inr (hv1.not_row (by decide) hown').symm); have hc1 := hv1.cell; have hf1 := hv1.frozen)
    exact ⟨hk2.from _, hkp, ⟨⟨⟨_, hv2, by rw [List.length_append, cellsP_snoc]; exact hrow2, trivial⟩, hBW.trans hb2⟩, Nat.le_trans hn1 hkp.size⟩⟩
  case done =>
    rintro D ys W hD rfl ⟨⟨⟨v, hv, hrow, _⟩, hBW⟩, hn1⟩ hK
    have hc := hv.cell
    gi_wp2
    refine ⟨by simp, .inl ⟨_, _, rfl, run_takeDeferred hK, ?_⟩⟩
    exact ⟨_, results_tmp rfl _ _ _, v, rfl, ownsRow_putObj (own_weaken hrow (by omega)) _ hK rfl, hBW.trans (belowK_b (w := w) (Nat.le_refl _) W D _ _ (by omega) hK rfl rfl)⟩
  case stop =>
    rintro D c pre W _ _ h _
    exact h.elim
end Go.Proofs.Ytlkgdfeeepiidaa.XLcs

namespace Go.Proofs.Ytlkgdfeeepiidaa.All
open Go.RowKit Go.Proofs.Ytlkgdfeeepiidaa.Lcs Go.Proofs.Ytlkgdfeeepiidaa.XLcs Go.Proofs.YtlkgdfeeepiidaaW.PrintWords Go.Proofs.YtlkgdfeeepiidaaW.PrintLast Go.Proofs.YtlkgdfeeepiidaaW.PrintMore
def lcs_Pairs.f (l0 l1 : List Int) : Option (List S55) := if l0.length ≤ 4000000 ∧ l1.length ≤ 4000000 then some ((prs l0 l1 0 0).map P55) else none
theorem lcs_Pairs.calls (A0 : Option Addr) (c0 : Nat) (l0 : List Int) (A1 : Option Addr) (c1 : Nat) (l1 : List Int) (r : List (S55)) (w : World) (hr0 : Kd.C (Kd.int .i64) w A0 l0.length l0) (hc0 : l0.length ≤ c0) (hr1 : Kd.C (Kd.int .i64) w A1 l1.length l1) (hc1 : l1.length ≤ c1) (h : lcs_Pairs.f l0 l1 = some r) :
    Calls Try.prog 35 #[.slice A0 l0.length c0, .slice A1 l1.length c1] w fun e w' => ∃ v0_ : Value, e = .returned (v0_) ∧ Kd.R k55 55 w' w.heap.size (fun _ => True) v0_ r ∧ Below w.heap.size w w' := by
  unfold lcs_Pairs.f at h
  split at h
  · rename_i hb
    obtain rfl := Option.some.inj h
    refine (callsIn_wide.1 (Pairs_in A0 c0 l0 A1 c1 l1 hb.1 hb.2 w hr0 hc0 hr1 hc1)).mono ?_
    rintro e w' ⟨v, rfl, ho, hB⟩
    exact ⟨v, rfl, R_of_own ho, hB⟩
  · cases h
end Go.Proofs.Ytlkgdfeeepiidaa.All
