/- lcs.table's iterator 'pairs': it tells the places of both lists, one by one, to every loop body that leaves the table and the lists as they lie. -/
import Derived.Test.YtlkgdfeeepiidaaXLcs1
import Derived.RangeFuncNested
import Derived.RangeFuncBound
import Derived.RangeFuncCalls
import Derived.RangeFuncLeaves
import Derived.Shelf.Abstract
import Derived.WalkKit
import Derived.OwnWalkIn
import Derived.TacticsInMore
import Derived.LoopNIn
import Derived.LoopIn
import Derived.Maps.AppendAt
import Derived.Sort.QuietIn
namespace Go.Proofs.Ytlkgdfeeepiidaa.XLcs
open Go.RowKit Go.Proofs.Ytlkgdfeeepiidaa.All Go.Proofs.Ytlkgdfeeepiidaa.Lcs Go.Proofs.YtlkgdfeeepiidaaW.PrintWords Go.Proofs.YtlkgdfeeepiidaaW.PrintLast Go.Proofs.YtlkgdfeeepiidaaW.PrintMore
set_option linter.unusedVariables false
set_option linter.unusedSimpArgs false
attribute [local go_sem] Oper.semAt_some
theorem wide_fn (f : Nat) : Fence.wide.fn f := trivial
attribute [local go_sem] wide_fn

/-- What a round that goes on keeps: all blocks below n1 but B0. -/
structure Kp (n1 B0 : Nat) (W W' : World) : Prop where
  size : W.heap.size ≤ W'.heap.size
  same : ∀ i, i < n1 → i ≠ B0 → W'.heap[i]? = W.heap[i]?
theorem Kp.refl (n1 B0 : Nat) (W : World) : Kp n1 B0 W W := ⟨Nat.le_refl _, fun _ _ _ => rfl⟩
theorem Kp.trans {n1 B0 : Nat} {A B C : World} (h : Kp n1 B0 A B) (k : Kp n1 B0 B C) : Kp n1 B0 A C :=
  ⟨Nat.le_trans h.size k.size, fun i hi hn => (k.same i hi hn).trans (h.same i hi hn)⟩
theorem Kp.putObj {n1 B0 : Nat} {N : Nat} (hN : n1 ≤ N) : ∀ (W : World) (l : Nat) (o o' : Obj), N ≤ l → W.heap[l]? = some o → o.isCells = false → o.isWalk = false → Kp n1 B0 W (W.putObj l o') :=
  fun W l o o' hl ho _ _ => ⟨by simp [World.putObj], fun i hi _ => by simp [World.putObj]; exact Array.getElem?_setIfInBounds_ne (by omega)⟩
theorem Kp.cell {n1 B0 : Nat} {W W' : World} (h : Kp n1 B0 W W') {p : Addr} (hp : p.block < n1) (hne : p.block ≠ B0) : W'.cell? p = W.cell? p := by
  simp only [World.cell?, h.same _ hp hne]

/-- What the iterator reads. -/
structure Reads (W : World) (n1 B0 Bt g h : Nat) (A0 : Option Addr) (c0 : Nat) (l : List Int) (A1 : Option Addr) (c1 : Nat) (m : List Int) : Prop where
  tab : IsTab W g h A0 c0 l A1 c1 m (hadL l m 0)
  box : W.heap[Bt]? = some (.cells #[.pointer (some ⟨g, 0, none⟩)] 87 (0, 0))
  rowA : ∀ j, j < l.length → ∃ ad, A0 = some ad ∧ ad.block < n1 ∧ ad.block ≠ B0 ∧ W.cell? (ad.add j) = some (.int .i64 (rd l (j : Int)))
  rowB : ∀ j, j < m.length → ∃ ad, A1 = some ad ∧ ad.block < n1 ∧ ad.block ≠ B0 ∧ W.cell? (ad.add j) = some (.int .i64 (rd m (j : Int)))
  hg : g < n1 ∧ g ≠ B0
  hh : h < n1 ∧ h ≠ B0
  hBt : Bt < n1 ∧ Bt ≠ B0
theorem add_block (ad : Addr) (j : Nat) : (ad.add j).block = ad.block := by unfold Addr.add; split <;> rfl
theorem Reads.keep {W W' : World} {n1 B0 Bt g h : Nat} {A0 : Option Addr} {c0 : Nat} {l : List Int} {A1 : Option Addr} {c1 : Nat} {m : List Int} (H : Reads W n1 B0 Bt g h A0 c0 l A1 c1 m) (k : Kp n1 B0 W W') :
    Reads W' n1 B0 Bt g h A0 c0 l A1 c1 m :=
  ⟨⟨(k.same _ H.hg.1 H.hg.2).trans H.tab.blk, (k.same _ H.hh.1 H.hh.2).trans H.tab.row⟩, (k.same _ H.hBt.1 H.hBt.2).trans H.box,
   fun j hj => by obtain ⟨ad, e, h1, h2, h3⟩ := H.rowA j hj; exact ⟨ad, e, h1, h2, (k.cell (by rw [add_block]; exact h1) (by rw [add_block]; exact h2)).trans h3⟩,
   fun j hj => by obtain ⟨ad, e, h1, h2, h3⟩ := H.rowB j hj; exact ⟨ad, e, h1, h2, (k.cell (by rw [add_block]; exact h1) (by rw [add_block]; exact h2)).trans h3⟩,
   H.hg, H.hh, H.hBt⟩

set_option maxRecDepth 100000 in
set_option maxHeartbeats 3200000 in
theorem pairs1_in (l' : Nat) (n1 B0 Bt g h : Nat) (A0 : Option Addr) (c0 : Nat) (l : List Int) (A1 : Option Addr) (c1 : Nat) (m : List Int) (hl : l.length ≤ 4000000) (hm : m.length ≤ 4000000) (n : Nat) (hn : 3 ≤ n)
    (J Jx : List (Nat × Nat) → World → Prop) (W : World) (HR : Reads W n1 B0 Bt g h A0 c0 l A1 c1 m)
    (hY : ∀ pre x W, J pre W → pre.length < (prs l m 0 0).length → YieldAt Fence.wide (n - 1) Try.prog l' #[.agg #[.int .i64 (x.1 : Int), .int .i64 (x.2 : Int)]] W fun e W' =>
      (e = .returned (.bool true) ∧ J (pre ++ [x]) W' ∧ Kp n1 B0 W W') ∨ (e = .returned (.bool false) ∧ Jx (pre ++ [x]) W'))
    (hJd : ∀ pre W q, J pre W → J pre (W.drewN q)) (h0 : J [] W) :
    CallsIn Fence.wide n Try.prog 92 #[.func (.yield l') #[] #[], .pointer (some ⟨Bt, 0, none⟩)] W fun e W' => (∃ v, e = .returned v) ∧
      ((∃ ys, ys = prs l m 0 0 ∧ J ys W') ∨ (∃ pre, pre <+: prs l m 0 0 ∧ Jx pre W')) := by
  have hN : l.length * m.length ≤ 35184372088832 := Nat.le_trans (Nat.mul_le_mul hl hm) (by omega)
  refine callsIn_of_wp Try.func92 rfl trivial ?_ rfl
  simp only [Try.ntmps92, List.size_toArray, List.length_cons, List.length_nil, Nat.reduceAdd, Nat.reduceSub, Array.replicate_succ, Array.replicate_zero, List.push_toArray, List.append_toArray, List.nil_append, List.cons_append]
  have HR0 := Aside0.mk HR
  clear HR
  gi_wp2
  gi_loopw [3, 4] (fun v3 v4 wr => ∃ (i k : Nat) (pre : List (Nat × Nat)), v3 = .int .i64 (i : Int) ∧ v4 = .int .i64 (k : Int) ∧ Aside0 (i ≤ l.length ∧ k ≤ m.length) ∧ Aside0 (pre ++ prs l m i k = prs l m 0 0) ∧ Aside0 (J pre wr) ∧ Aside0 (Kp n1 B0 W wr))
    (fun v3 v4 _ => (l.length - (intOf v3).toNat) + (m.length - (intOf v4).toNat))
  case atStart => exact ⟨0, 0, [], rfl, rfl, ⟨Nat.zero_le _, Nat.zero_le _⟩, ⟨by simp⟩, ⟨h0⟩, ⟨Kp.refl _ _ _⟩⟩
  case round =>
    obtain ⟨i, k, pre, rfl, rfl, HI, HP, HJ, HK⟩ := hrel
    have HR := Aside0.mk (HR0.out.keep HK.out)
    have cb := blk_cell HR.out.box 0
    have cg0 := blk_cell HR.out.tab.blk 0
    have cg1 := blk_cell HR.out.tab.blk 1
    simp only [List.getElem?_toArray, List.getElem?_cons_zero, List.getElem?_cons_succ] at cb cg0 cg1
    by_cases hi : i < l.length
    · have hib : decide ((i : Int) < (l.length : Int)) = true := decide_eq_true (by omega)
      by_cases hk : k < m.length
      · have hkb : decide ((k : Int) < (m.length : Int)) = true := decide_eq_true (by omega)
        obtain ⟨ad0, ea0, _, _, hx0⟩ := HR.out.rowA i hi
        obtain ⟨ad1, ea1, _, _, hx1⟩ := HR.out.rowB k hk
        cases ea0
        cases ea1
        have p1 : ((i : Int) < (l.length : Int)) = True := eq_true (by omega)
        have p2 : ((k : Int) < (m.length : Int)) = True := eq_true (by omega)
        have p3 : (i < l.length) = True := eq_true hi
        have p4 : (k < m.length) = True := eq_true hk
        have s1 : IntKind.i64.wrap ((i : Int) + 1) = ((i + 1 : Nat) : Int) := by rw [i64_w, wrap64]; omega
        have s2 : IntKind.i64.wrap ((k : Int) + 1) = ((k + 1 : Nat) : Int) := by rw [i64_w, wrap64]; omega
        have hT := HR.out.tab
        gi_wp2
        gi_quiet (fail)
        by_cases he : rd l (i : Int) = rd m (k : Int)
        · have heb : (rd l (i : Int) == rd m (k : Int)) = true := beq_iff_eq.2 he
          have hee : l[i] = m[k] := by rw [← rd_get l i hi, ← rd_get m k hk]; exact he
          have hpp := prs_same l m i k hi hk hee
          have Hpp := Aside0.mk hpp
          clear he hpp hee
          obtain ⟨fn, tmps, assign, body, hy, hR⟩ := hY pre (i, k) (wr.drewN nq) (hJd _ _ _ HJ.out) (by have := HP.out; rw [Hpp.out] at this; rw [← this]; simp)
          dsimp only at hy
          gi_wp2
          refine ⟨fun _ => by omega, hR.mono ?_⟩
          rintro e W3 (⟨rfl, hJ3, hk3⟩ | ⟨rfl, hJx3⟩)
          · have hJ3' := Aside0.mk hJ3
            have hk3' := Aside0.mk hk3
            clear hJ3 hk3 hy hR
            gi_wp2
            go_roundw
            case rel => exact ⟨i + 1, k + 1, pre ++ [(i, k)], by simp, by simp, ⟨by omega⟩, ⟨by have := HP.out; rw [Hpp.out] at this; simpa using this⟩, hJ3', ⟨HK.out.trans ((show Kp n1 B0 wr (wr.drewN nq) from ⟨Nat.le_refl _, fun _ _ _ => rfl⟩).trans hk3'.out)⟩⟩
            case measure => simp [intOf]; omega
          · gi_wp2
            refine bodyPost_ret (results_none rfl _ _ _) rfl ?_
            exact ⟨⟨_, rfl⟩, .inr ⟨pre ++ [(i, k)], ⟨prs l m (i + 1) (k + 1), by have := HP.out; rw [Hpp.out] at this; simpa using this⟩, hJx3⟩⟩
        · have heb : (rd l (i : Int) == rd m (k : Int)) = false := beq_eq_false_iff_ne.2 he
          have hee : ¬ l[i] = m[k] := by rw [← rd_get l i hi, ← rd_get m k hk]; exact he
          have Hee := Aside0.mk hee
          clear he hee
          have q1 : (0 : Nat) ≤ (i + 1) * m.length + k := Nat.zero_le _
          by_cases hv : tv l m i (k + 1) ≤ tv l m (i + 1) k
          · have hvb : decide (tv l m i (k + 1) ≤ tv l m (i + 1) k) = true := decide_eq_true hv
            have hvb2 : decide ((tv l m i (k + 1) : Int) ≤ (tv l m (i + 1) k : Int)) = true := decide_eq_true (by omega)
            have Hpp := Aside0.mk (prs_down l m i k hi hk Hee.out hv)
            clear hv
            gi_wp2
            gi_quiet (first
              | ((try refine ⟨fun _ => by omega, ?_⟩); gi_at_call 67; refine (callsIn_wide.2 (at_int g h (some ad0) c0 l (some ad1) c1 m 0 (i + 1) k _ _ _ ?_ ?_ hN hi (Nat.le_of_lt hk) (Nat.zero_le _) ?_)).mono ?_; (first | rfl | (simp; done)); (first | rfl | (simp; done)); (repeat (first | assumption | apply IsTab.drewN | apply IsTab.drew)); rintro e w2 ⟨rfl, z, rfl⟩; exact ⟨rfl, _, by rw [World.drewN_drewN, Nat.add_assoc]⟩)
              | ((try refine ⟨fun _ => by omega, ?_⟩); gi_at_call 67; refine (callsIn_wide.2 (at_int g h (some ad0) c0 l (some ad1) c1 m 0 i (k + 1) _ _ _ ?_ ?_ hN (Nat.le_of_lt hi) hk (Nat.zero_le _) ?_)).mono ?_; (first | rfl | (simp; done)); (first | rfl | (simp; done)); (repeat (first | assumption | apply IsTab.drewN | apply IsTab.drew)); rintro e w2 ⟨rfl, z, rfl⟩; exact ⟨rfl, _, by rw [World.drewN_drewN, Nat.add_assoc]⟩))
            gi_wp2
            go_roundw
            case rel => exact ⟨i + 1, k, pre, by simp, rfl, ⟨by omega⟩, ⟨by have := HP.out; rw [Hpp.out] at this; exact this⟩, ⟨hJd _ _ _ HJ.out⟩, ⟨HK.out.trans ⟨Nat.le_refl _, fun _ _ _ => rfl⟩⟩⟩
            case measure => simp [intOf]; omega
          · have hvb : decide (tv l m i (k + 1) ≤ tv l m (i + 1) k) = false := decide_eq_false hv
            have hvb2 : decide ((tv l m i (k + 1) : Int) ≤ (tv l m (i + 1) k : Int)) = false := decide_eq_false (by omega)
            have Hpp := Aside0.mk (prs_right l m i k hi hk Hee.out hv)
            clear hv
            gi_wp2
            gi_quiet (first
              | ((try refine ⟨fun _ => by omega, ?_⟩); gi_at_call 67; refine (callsIn_wide.2 (at_int g h (some ad0) c0 l (some ad1) c1 m 0 (i + 1) k _ _ _ ?_ ?_ hN hi (Nat.le_of_lt hk) (Nat.zero_le _) ?_)).mono ?_; (first | rfl | (simp; done)); (first | rfl | (simp; done)); (repeat (first | assumption | apply IsTab.drewN | apply IsTab.drew)); rintro e w2 ⟨rfl, z, rfl⟩; exact ⟨rfl, _, by rw [World.drewN_drewN, Nat.add_assoc]⟩)
              | ((try refine ⟨fun _ => by omega, ?_⟩); gi_at_call 67; refine (callsIn_wide.2 (at_int g h (some ad0) c0 l (some ad1) c1 m 0 i (k + 1) _ _ _ ?_ ?_ hN (Nat.le_of_lt hi) hk (Nat.zero_le _) ?_)).mono ?_; (first | rfl | (simp; done)); (first | rfl | (simp; done)); (repeat (first | assumption | apply IsTab.drewN | apply IsTab.drew)); rintro e w2 ⟨rfl, z, rfl⟩; exact ⟨rfl, _, by rw [World.drewN_drewN, Nat.add_assoc]⟩))
            gi_wp2
            go_roundw
            case rel => exact ⟨i, k + 1, pre, rfl, by simp, ⟨by omega⟩, ⟨by have := HP.out; rw [Hpp.out] at this; exact this⟩, ⟨hJd _ _ _ HJ.out⟩, ⟨HK.out.trans ⟨Nat.le_refl _, fun _ _ _ => rfl⟩⟩⟩
            case measure => simp [intOf]; omega
      · have hkb : decide ((k : Int) < (m.length : Int)) = false := decide_eq_false (by omega)
        have hend := prs_end l m i k (by omega)
        have Hend := Aside0.mk hend
        clear hend
        gi_wp2
        go_end0
        exact ⟨⟨_, rfl⟩, .inl ⟨pre, by have := HP.out; rw [Hend.out] at this; simpa using this, HJ.out⟩⟩
    · have hib : decide ((i : Int) < (l.length : Int)) = false := decide_eq_false (by omega)
      have hend := prs_end l m i k (by omega)
      have Hend := Aside0.mk hend
      clear hend
      gi_wp2
      go_end0
      exact ⟨⟨_, rfl⟩, .inl ⟨pre, by have := HP.out; rw [Hend.out] at this; simpa using this, HJ.out⟩⟩
end Go.Proofs.Ytlkgdfeeepiidaa.XLcs
