/- The document's answer for weave: its small functions, told by plain words. · The document's answer for weave: one step from chunk to chunk, in plain words. · The document's Chunks: its walk. · The document's Merge: its walk. -/
import Derived.Test.YtlkgdfeeepiidaaWvM
import Derived.Test.YtlkgdfeeepiidaaLcsRef
import Derived.Test.YtlkgdfeeepiidaaF80
import Derived.Test.YtlkgdfeeepiidaaF81
import Derived.Test.YtlkgdfeeepiidaaWvS
import Derived.BigQuiet
import Derived.Deep.CutBlock
import Derived.Deep.QuietTactic
import Derived.Test.YtlkgdfeeepiidaaF58
namespace Go.Proofs.Ytlkgdfeeepiidaa.Wv
open Go.RowKit Go.Proofs.Ytlkgdfeeepiidaa Go.Proofs.Ytlkgdfeeepiidaa.All Go.Proofs.Ytlkgdfeeepiidaa.Lcs Go.Proofs.YtlkgdfeeepiidaaW.PrintWords Go.Proofs.YtlkgdfeeepiidaaW.PrintLast Go.Proofs.YtlkgdfeeepiidaaW.PrintMore
set_option linter.unusedVariables false
set_option linter.unusedSimpArgs false
theorem rd_P91 (ps : List (Nat × Nat)) (j : Nat) (h : j < ps.length) : rd_T91 (ps.map P91) (j : Int) = P91 ps[j] := by unfold rd_T91; simp [h]
theorem kv_cons_eq (p : Nat × Nat) (ps : List (Nat × Nat)) : kv (p :: ps) p.1 = (p.2 : Int) := by unfold kv kp; simp
theorem kv_cons_ne (p : Nat × Nat) (ps : List (Nat × Nat)) (i : Nat) (h : p.1 ≠ i) : kv (p :: ps) i = kv ps i := by
  unfold kv kp
  rw [List.find?_cons_of_neg (by simpa using h)]
theorem refKept_ev (ps : List (Nat × Nat)) (i : Nat) (hl : ps.length ≤ 1000000) : Ev (fun k => emendationref05_kept.f k (ps.map P91) (i : Int)) (kv ps i) := by
  have h0 : ∀ (d q : Nat), q + d = ps.length → Ev (fun k => emendationref05_kept.l0 k (ps.map P91) (i : Int) (ps.length : Int) (q : Int)) (kv (ps.drop q) i) := by
    intro d
    induction d with
    | zero =>
      intro q hq
      refine ⟨1, fun k hk => ?_⟩
      obtain ⟨m, rfl⟩ : ∃ m, k = m + 1 := ⟨k - 1, (Nat.sub_add_cancel hk).symm⟩
      show emendationref05_kept.l0 (m + 1) _ _ _ _ = _
      have z : ¬ (q : Int) < (ps.length : Int) := by omega
      rw [emendationref05_kept.l0, if_neg z, List.drop_eq_nil_of_le (by omega)]
      rfl
    | succ d ih =>
      intro q hq
      have z0 : q < ps.length := by omega
      have z1 : (q : Int) < (ps.length : Int) := by omega
      have z2 : (0 : Int) ≤ (q : Int) := by omega
      have z3 : (q : Int) < ((ps.map P91).length : Int) := by rw [List.length_map]; exact z1
      have w := wone q (by omega)
      have g := rd_P91 ps q z0
      rw [List.drop_eq_getElem_cons z0]
      have nx := ih (q + 1) (by clear w g; omega)
      have f0 : (P91 ps[q]).f0 = (ps[q].1 : Int) := rfl
      have f1 : (P91 ps[q]).f1 = (ps[q].2 : Int) := rfl
      by_cases he : ps[q].1 = i
      · have he' : (ps[q].1 : Int) = (i : Int) := by rw [he]
        refine ⟨1, fun k hk => ?_⟩
        obtain ⟨m, rfl⟩ : ∃ m, k = m + 1 := ⟨k - 1, (Nat.sub_add_cancel hk).symm⟩
        show emendationref05_kept.l0 (m + 1) _ _ _ _ = _
        rw [emendationref05_kept.l0, if_pos z1, if_pos z2, if_pos z3, g, f0, if_pos he', f1, ← he, kv_cons_eq]
      · have he' : ¬ (ps[q].1 : Int) = (i : Int) := by clear w g f0 f1; omega
        rw [kv_cons_ne _ _ _ he]
        refine Ev.step (fun k => ?_) nx
        rw [emendationref05_kept.l0, if_pos z1, if_pos z2, if_pos z3, g, f0, if_neg he', w]
  have h := h0 ps.length 0 (Nat.zero_add _)
  rw [List.drop_zero] at h
  refine Ev.congr (fun k => ?_) h
  rw [emendationref05_kept.f, List.length_map]
  rfl
theorem refSame_ev (a b : List Int) (ha : a.length ≤ 1000000) : Ev (fun k => emendationref05_same.f k a b) (a == b) := by
  by_cases hl : a.length = b.length
  · have hl0 : ∀ (d i : Nat), i + d = a.length → Ev (fun k => emendationref05_same.l0 k a b (a.length : Int) (i : Int)) (a.drop i == b.drop i) := by
      intro d
      induction d with
      | zero =>
        intro i hi
        refine ⟨1, fun k hk => ?_⟩
        obtain ⟨q, rfl⟩ : ∃ q, k = q + 1 := ⟨k - 1, (Nat.sub_add_cancel hk).symm⟩
        show emendationref05_same.l0 (q + 1) _ _ _ _ = _
        have z : ¬ (i : Int) < (a.length : Int) := by omega
        rw [emendationref05_same.l0, if_neg z, List.drop_eq_nil_of_le (by omega), List.drop_eq_nil_of_le (by omega)]
        rfl
      | succ d ih =>
        intro i hi
        have z1 : (i : Int) < (a.length : Int) := by omega
        have z2 : (0 : Int) ≤ (i : Int) := by omega
        have z3 : (i : Int) < (b.length : Int) := by omega
        have z4 : i < a.length := by omega
        have z5 : i < b.length := by omega
        have nx := ih (i + 1) (by omega)
        have w := wone i (by omega)
        have g1 := rd_nat a i z4
        have g2 := rd_nat b i z5
        have e1 := List.drop_eq_getElem_cons z4
        have e2 := List.drop_eq_getElem_cons z5
        rw [e1, e2, List.cons_beq_cons]
        by_cases he : a[i] = b[i]
        · refine Ev.step (fun k => ?_) (f := fun k => emendationref05_same.l0 k a b (a.length : Int) ((i + 1 : Nat) : Int)) ?_
          · rw [emendationref05_same.l0, if_pos z1, if_pos z2, if_pos z1, if_pos z3, g1, g2, if_pos he, w]
          · rw [beq_iff_eq.2 he, Bool.true_and]; exact nx
        · refine ⟨1, fun k hk => ?_⟩
          obtain ⟨q, rfl⟩ : ∃ q, k = q + 1 := ⟨k - 1, (Nat.sub_add_cancel hk).symm⟩
          show emendationref05_same.l0 (q + 1) _ _ _ _ = _
          rw [emendationref05_same.l0, if_pos z1, if_pos z2, if_pos z1, if_pos z3, g1, g2, if_neg he, beq_eq_false_iff_ne.2 he, Bool.false_and]
    have h := hl0 a.length 0 (by omega)
    simp only [List.drop_zero] at h
    refine Ev.congr (fun k => ?_) h
    have z : (a.length : Int) = (b.length : Int) := by omega
    rw [emendationref05_same.f, if_pos z]
    rfl
  · refine ⟨0, fun k _ => ?_⟩
    have z : ¬ (a.length : Int) = (b.length : Int) := by omega
    show emendationref05_same.f k a b = _
    rw [emendationref05_same.f, if_neg z]
    have : (a == b) = false := by rw [beq_eq_false_iff_ne]; intro h; exact hl (by rw [h])
    rw [this]
theorem refOut_ev (b o t : List Int) (ho : o.length ≤ 1000000) (ht : t.length ≤ 1000000) : Ev (fun k => emendationref05_outcome.f k b o t) (outc b o t) := by
  obtain ⟨K1, h1⟩ := refSame_ev o t ho
  obtain ⟨K2, h2⟩ := refSame_ev o b ho
  obtain ⟨K3, h3⟩ := refSame_ev t b ht
  refine ⟨K1 + K2 + K3, fun q hq => ?_⟩
  have n1 : emendationref05_same.f q o t = some (o == t) := h1 q (by omega)
  have n2 : emendationref05_same.f q o b = some (o == b) := h2 q (by omega)
  have n3 : emendationref05_same.f q t b = some (t == b) := h3 q (by omega)
  show emendationref05_outcome.f q b o t = _
  unfold emendationref05_outcome.f outc
  rw [n1, n2, n3]
  simp only [Option.bind_some]
  split
  · rfl
  · split
    · rfl
    · split <;> rfl
theorem kept_calls (A : Option Addr) (c : Nat) (ps : List (Nat × Nat)) (i : Nat) (w : World) (hl : ps.length ≤ 1000000) (hr : Kd.C k91 w A ps.length (ps.map P91)) (hc : ps.length ≤ c) :
    Calls Try.prog 80 #[.slice A ps.length c, .int .i64 (i : Int)] w fun e w' => e = .returned (.int .i64 (kv ps i)) ∧ Drawn0 w w' := by
  obtain ⟨k, hk⟩ := (refKept_ev ps i hl).rounds
  have e : (ps.map P91).length = ps.length := List.length_map _
  rw [← e] at hr hc ⊢
  exact emendationref05_kept.calls k A c _ _ _ w hr hc hk
theorem out81_calls (A0 : Option Addr) (c0 : Nat) (b : List Int) (A1 : Option Addr) (c1 : Nat) (o : List Int) (A2 : Option Addr) (c2 : Nat) (t : List Int) (w : World) (ho : o.length ≤ 1000000) (ht : t.length ≤ 1000000)
    (hr0 : Kd.C (Kd.int .i64) w A0 b.length b) (hc0 : b.length ≤ c0) (hr1 : Kd.C (Kd.int .i64) w A1 o.length o) (hc1 : o.length ≤ c1) (hr2 : Kd.C (Kd.int .i64) w A2 t.length t) (hc2 : t.length ≤ c2) :
    Calls Try.prog 81 #[.slice A0 b.length c0, .slice A1 o.length c1, .slice A2 t.length c2] w fun e w' => e = .returned (.int .i64 (outc b o t)) ∧ Drawn0 w w' := by
  obtain ⟨k, hk⟩ := (refOut_ev b o t ho ht).rounds
  exact emendationref05_outcome.calls k A0 c0 b A1 c1 o A2 c2 t _ w hr0 hc0 hr1 hc1 hr2 hc2 hk
theorem refPairs_calls (A0 : Option Addr) (c0 : Nat) (a : List Int) (A1 : Option Addr) (c1 : Nat) (b : List Int) (w : World) (ha : a.length ≤ 100000) (hb : b.length ≤ 100000)
    (hr0 : Kd.C (Kd.int .i64) w A0 a.length a) (hc0 : a.length ≤ c0) (hr1 : Kd.C (Kd.int .i64) w A1 b.length b) (hc1 : b.length ≤ c1) :
    Calls Try.prog 36 #[.slice A0 a.length c0, .slice A1 b.length c1] w fun e w' => ∃ v0_ : Value, e = .returned (v0_) ∧ Kd.R k91 91 w' w.heap.size (fun _ => True) v0_ ((prs a b 0 0).map P91) ∧ Below w.heap.size w w' := by
  obtain ⟨k, hk⟩ := (RefPairs_ev a b ha hb).rounds
  exact emendationref04_Pairs.calls k A0 c0 a A1 c1 b _ w hr0 hc0 hr1 hc1 hk
/-- part: a range of a list. -/
theorem part_at (f t : Nat) (A : Option Addr) (c : Nat) (l : List Int) (w : World) (h1 : f ≤ t) (h2 : t ≤ l.length) (hr : Kd.C (Kd.int .i64) w A l.length l) (hc : l.length ≤ c) :
    ∃ A' c', (∀ W, Calls Try.prog 82 #[.slice A l.length c, .agg #[.int .i64 (f : Int), .int .i64 (t : Int)]] W fun e w' => e = .returned (.slice A' (seg l f t).length c') ∧ w' = W.alloc (.cells #[.int .i64 (f : Int), .int .i64 (t : Int)] 111)) ∧
      Kd.C (Kd.int .i64) w A' (seg l f t).length (seg l f t) ∧ (seg l f t).length ≤ c' := by
  have hm := Kd.C_mid hr h1 h2 hc
  have hpl := seg_length l f t h2
  rw [show ((l.take t).drop f).length = t - f from hpl, show f * (Kd.int .i64).sz = f from Nat.mul_one f] at hm
  rw [hpl]
  have g1 : (0 ≤ (f : Int)) = True := eq_true (by omega)
  have g2 : (0 ≤ (t : Int)) = True := eq_true (by omega)
  have g3 : ((f : Int) ≤ (t : Int)) = True := eq_true (by omega)
  have g4 : ((t : Int) ≤ (c : Int)) = True := eq_true (by omega)
  have g5 : (f ≤ t) = True := eq_true h1
  have g6 : (t ≤ c) = True := eq_true (by omega)
  by_cases hcf : c = f
  · have g7 := eq_true hcf
    rw [if_pos hcf] at hm
    refine ⟨A, c - f, fun W => ?_, hm, by omega⟩
    clear hm hcf hr
    go_enter Try.func82, Try.ntmps82
    go_wp2
    go_ret
    exact ⟨rfl, rfl⟩
  · have g7 := eq_false hcf
    rw [if_neg hcf] at hm
    refine ⟨A.map (·.add f), c - f, fun W => ?_, hm, by omega⟩
    clear hm hcf hr
    go_enter Try.func82, Try.ntmps82
    go_wp2
    go_ret
    exact ⟨rfl, rfl⟩
end Go.Proofs.Ytlkgdfeeepiidaa.Wv
namespace Go.Proofs.Ytlkgdfeeepiidaa.Wv
open Go.Proofs.Ytlkgdfeeepiidaa.All Go.Proofs.Ytlkgdfeeepiidaa.Lcs
theorem stepS (b o t : List Int) (P Q : List (Nat × Nat)) (x y z m : Nat) (hm : x + m = b.length) (hc : Chain b o t x y z (trs P Q x m)) (h0 : 0 < runl x y z (trs P Q x m)) :
    chs b o t x y z 0 (trs P Q x m) = ⟨x, x + runl x y z (trs P Q x m), y, y + runl x y z (trs P Q x m), z, z + runl x y z (trs P Q x m), 1⟩ :: chs b o t (x + runl x y z (trs P Q x m)) (y + runl x y z (trs P Q x m)) (z + runl x y z (trs P Q x m)) 0 (trs P Q (x + runl x y z (trs P Q x m)) (b.length - (x + runl x y z (trs P Q x m)))) ∧
    Chain b o t (x + runl x y z (trs P Q x m)) (y + runl x y z (trs P Q x m)) (z + runl x y z (trs P Q x m)) (trs P Q (x + runl x y z (trs P Q x m)) (b.length - (x + runl x y z (trs P Q x m)))) := by
  have hdrop := trs_drop P Q m x y z
  have hcd := chain_drop hc
  have hs := chs_same b o t _ _ _ _ h0
  rw [hdrop] at hcd hs
  rw [show m - runl x y z (trs P Q x m) = b.length - (x + runl x y z (trs P Q x m)) by omega] at hcd hs
  exact ⟨hs, hcd⟩
theorem stepG (b o t : List Int) (P Q : List (Nat × Nat)) (x y z m : Nat) (hm : x + m = b.length) (hc : Chain b o t x y z (trs P Q x m)) (h0 : runl x y z (trs P Q x m) = 0) (hin : x < b.length ∨ y < o.length ∨ z < t.length) :
    ∃ i j k : Nat, ahead b o t (trs P Q x m) = ((i : Int), (j : Int), (k : Int)) ∧ (x ≤ i ∧ i ≤ b.length) ∧ (y ≤ j ∧ j ≤ o.length) ∧ (z ≤ k ∧ k ≤ t.length) ∧ x + y + z < i + j + k ∧
      chs b o t x y z 0 (trs P Q x m) = gap b o t x i y j z k :: chs b o t i j k 0 (trs P Q i (b.length - i)) ∧ Chain b o t i j k (trs P Q i (b.length - i)) := by
  obtain ⟨lx, ly, lz⟩ := hc.le
  cases hT : trs P Q x m with
  | nil =>
    refine ⟨b.length, o.length, t.length, rfl, ⟨lx, Nat.le_refl _⟩, ⟨ly, Nat.le_refl _⟩, ⟨lz, Nat.le_refl _⟩, by omega, ?_, ?_⟩
    · rw [Nat.sub_self, chs_last _ _ _ _ _ _ hin]
      show _ = _ :: chs b o t b.length o.length t.length 0 []
      rw [chs_end]
    · rw [Nat.sub_self]; exact .nil _ _ _ (Nat.le_refl _) (Nat.le_refl _) (Nat.le_refl _)
  | cons p K =>
    obtain ⟨i, j, k⟩ := p
    have hh := trs_head _ _ _ _ _ _ _ _ hT
    rw [show x + m - i = b.length - i by omega] at hh
    rw [hT] at hc h0
    cases hc with
    | cons _ _ _ _ _ _ _ h1 h2 h3 hx hy hz e1 e2 hcc =>
    refine ⟨i, j, k, rfl, ⟨h1, by omega⟩, ⟨h2, by omega⟩, ⟨h3, by omega⟩, ?_, ?_, ?_⟩
    · rw [runl] at h0
      by_cases hh : i = x ∧ j = y ∧ k = z
      · rw [if_pos hh] at h0; omega
      · omega
    · rw [hh]; exact chs_next _ _ _ _ _ _ _ _ _ _ h0
    · rw [hh]; exact .cons _ _ _ _ _ _ _ (Nat.le_refl _) (Nat.le_refl _) (Nat.le_refl _) hx hy hz e1 e2 hcc
/-- What is gone through, and what is ahead. -/
structure Tot (b o t : List Int) (P Q : List (Nat × Nat)) (R : List S113) (x y z : Nat) (out : List S113) : Prop where
  chain : Chain b o t x y z (trs P Q x (b.length - x))
  all : out ++ (chs b o t x y z 0 (trs P Q x (b.length - x))).map C113 = R
  len : out.length ≤ x + y + z
theorem Tot.run {b o t : List Int} {P Q : List (Nat × Nat)} {R : List S113} {x y z : Nat} {out : List S113} (h : Tot b o t P Q R x y z out) (n : Nat) (hn : n = runl x y z (trs P Q x (b.length - x))) (h0 : 0 < n) :
    Tot b o t P Q R (x + n) (y + n) (z + n) (out ++ [C113 ⟨x, x + n, y, y + n, z, z + n, 1⟩]) := by
  obtain ⟨lx, _, _⟩ := h.chain.le
  subst hn
  obtain ⟨h1, h2⟩ := stepS b o t P Q x y z (b.length - x) (by omega) h.chain h0
  refine ⟨h2, ?_, by have := h.len; rw [List.length_append, List.length_singleton]; omega⟩
  rw [← h.all, List.append_assoc, h1]
  rfl
theorem Tot.gap {b o t : List Int} {P Q : List (Nat × Nat)} {R : List S113} {x y z : Nat} {out : List S113} (h : Tot b o t P Q R x y z out) (h0 : runl x y z (trs P Q x (b.length - x)) = 0) (hin : x < b.length ∨ y < o.length ∨ z < t.length) :
    ∃ i j k : Nat, ahead b o t (trs P Q x (b.length - x)) = ((i : Int), (j : Int), (k : Int)) ∧ (x ≤ i ∧ i ≤ b.length) ∧ (y ≤ j ∧ j ≤ o.length) ∧ (z ≤ k ∧ k ≤ t.length) ∧ x + y + z < i + j + k ∧
      Tot b o t P Q R i j k (out ++ [C113 (Wv.gap b o t x i y j z k)]) := by
  obtain ⟨lx, _, _⟩ := h.chain.le
  obtain ⟨i, j, k, a1, a2, a3, a4, a5, a6, a7⟩ := stepG b o t P Q x y z (b.length - x) (by omega) h.chain h0 hin
  refine ⟨i, j, k, a1, a2, a3, a4, a5, a7, ?_, by have := h.len; rw [List.length_append, List.length_singleton]; omega⟩
  rw [← h.all, List.append_assoc, a6]
  rfl
theorem Tot.done {b o t : List Int} {P Q : List (Nat × Nat)} {R : List S113} {x y z : Nat} {out : List S113} (h : Tot b o t P Q R x y z out) (hx : ¬ (x < b.length ∨ y < o.length ∨ z < t.length)) : out = R := by
  obtain ⟨lx, ly, lz⟩ := h.chain.le
  have e1 : x = b.length := by omega
  have e2 : y = o.length := by omega
  have e3 : z = t.length := by omega
  have ha := h.all
  subst e1; subst e2; subst e3
  rw [Nat.sub_self] at ha
  have : trs P Q b.length 0 = [] := rfl
  rw [this, chs_end, List.map_nil, List.append_nil] at ha
  exact ha
theorem Tot.start (b o t : List Int) : Tot b o t (prs b o 0 0) (prs b t 0 0) ((chunks b o t).map C113) 0 0 0 [] := ⟨chain_tri b o t, rfl, Nat.le_refl _⟩
/-- In the run: one place more, or its end. -/
theorem runl_more (P Q : List (Nat × Nat)) (x y z n N R : Nat) (h : n + runl (x + n) (y + n) (z + n) (trs P Q (x + n) (N - (x + n))) = R) (hN : x + n < N) (h1 : kp P (x + n) = some (y + n)) (h2 : kp Q (x + n) = some (z + n)) :
    n + 1 + runl (x + (n + 1)) (y + (n + 1)) (z + (n + 1)) (trs P Q (x + (n + 1)) (N - (x + (n + 1)))) = R := by
  have hr := runl_trs P Q (x + n) (y + n) (z + n) (N - (x + n) - 1)
  rw [if_pos ⟨h1, h2⟩, show N - (x + n) - 1 + 1 = N - (x + n) by omega] at hr
  rw [hr] at h
  rw [show N - (x + (n + 1)) = N - (x + n) - 1 by omega]
  rw [← h, Nat.add_assoc n 1, Nat.add_comm 1]
  rfl
theorem runl_end (P Q : List (Nat × Nat)) (x y z n N R : Nat) (h : n + runl (x + n) (y + n) (z + n) (trs P Q (x + n) (N - (x + n))) = R) (hh : ¬ (x + n < N) ∨ ¬ (kp P (x + n) = some (y + n) ∧ kp Q (x + n) = some (z + n))) : n = R := by
  by_cases hN : x + n < N
  · have hr := runl_trs P Q (x + n) (y + n) (z + n) (N - (x + n) - 1)
    rw [if_neg (fun h => hh.elim (fun h1 => h1 hN) (fun h2 => h2 h)), show N - (x + n) - 1 + 1 = N - (x + n) by omega] at hr
    omega
  · rw [show N - (x + n) = 0 by omega] at h
    simp [trs, runl] at h
    exact h
/-- No place between that both keep. -/
theorem trs_skip (P Q : List (Nat × Nat)) (i N : Nat) (hN : i < N) (h : kp P i = none ∨ kp Q i = none) : trs P Q i (N - i) = trs P Q (i + 1) (N - (i + 1)) := by
  rw [show N - i = N - (i + 1) + 1 by omega, trs_none _ _ _ _ h]
theorem trs_here (P Q : List (Nat × Nat)) (i N j k : Nat) (hN : i < N) (h1 : kp P i = some j) (h2 : kp Q i = some k) : trs P Q i (N - i) = (i, j, k) :: trs P Q (i + 1) (N - (i + 1)) := by
  rw [show N - i = N - (i + 1) + 1 by omega, trs_some _ _ _ _ _ _ h1 h2]
theorem trs_over (P Q : List (Nat × Nat)) (i N : Nat) (hN : ¬ i < N) : trs P Q i (N - i) = [] := by
  rw [show N - i = 0 by omega]; rfl
end Go.Proofs.Ytlkgdfeeepiidaa.Wv
namespace Go.Proofs.Ytlkgdfeeepiidaa.All
open Go.RowKit Go.Proofs.Ytlkgdfeeepiidaa Go.Proofs.Ytlkgdfeeepiidaa.XWv Go.Proofs.Ytlkgdfeeepiidaa.Wv Go.Proofs.Ytlkgdfeeepiidaa.Lcs Go.Proofs.YtlkgdfeeepiidaaW.PrintWords Go.Proofs.YtlkgdfeeepiidaaW.PrintLast Go.Proofs.YtlkgdfeeepiidaaW.PrintMore
set_option linter.unusedVariables false
set_option linter.unusedSimpArgs false
def emendationref05_Chunks.f (b o t : List Int) : Option (List S113) := if b.length ≤ 100000 ∧ o.length ≤ 100000 ∧ t.length ≤ 100000 then some ((chunks b o t).map C113) else none
theorem row_new113 {W : World} {base : Nat} {v : Value} {out : List S113} (HO : Kd.R k113 113 W base (fun _ => True) v out) (o : Obj) : Kd.R k113 113 (W.alloc o) base (fun k => k ≠ W.heap.size) v out :=
  Kd.R_mono (Kd.R_alloc (Kd.R_bound HO) o) (fun k hk => Nat.ne_of_lt hk.2.2.1)
theorem ahead_is (b o t : List Int) (P Q : List (Nat × Nat)) (x m i j k : Nat) (hm : x + m = b.length) (h : Wv.ahead b o t (trs P Q x m) = ((i : Int), (j : Int), (k : Int))) : (i < b.length → kp P i = some j ∧ kp Q i = some k) ∧ (¬ i < b.length → i = b.length ∧ j = o.length ∧ k = t.length) := by
  cases hT : trs P Q x m with
  | nil =>
    rw [hT] at h
    injection h with h1 h2
    injection h2 with h2 h3
    have e1 := Int.ofNat.inj h1
    have e2 := Int.ofNat.inj h2
    have e3 := Int.ofNat.inj h3
    exact ⟨fun hl => by omega, fun _ => ⟨e1.symm, e2.symm, e3.symm⟩⟩
  | cons p K =>
    obtain ⟨i', j', k'⟩ := p
    have hmem := trs_mem P Q m x (i', j', k') (by rw [hT]; exact List.mem_cons_self ..)
    rw [hT] at h
    injection h with h1 h2
    injection h2 with h2 h3
    have e1 := Int.ofNat.inj h1
    have e2 := Int.ofNat.inj h2
    have e3 := Int.ofNat.inj h3
    subst e1; subst e2; subst e3
    obtain ⟨g1, g2, g3, g4⟩ := hmem
    exact ⟨fun _ => ⟨g3, g4⟩, fun hl => absurd (show i' < b.length by have g2' : i' < x + m := g2; omega) hl⟩
set_option maxHeartbeats 4000000 in
set_option maxRecDepth 100000 in
theorem emendationref05_Chunks.calls (A0 : Option Addr) (c0 : Nat) (l0 : List Int) (A1 : Option Addr) (c1 : Nat) (l1 : List Int) (A2 : Option Addr) (c2 : Nat) (l2 : List Int) (r : List S113) (w : World)
    (hr0 : Kd.C (Kd.int .i64) w A0 l0.length l0) (hc0 : l0.length ≤ c0) (hr1 : Kd.C (Kd.int .i64) w A1 l1.length l1) (hc1 : l1.length ≤ c1) (hr2 : Kd.C (Kd.int .i64) w A2 l2.length l2) (hc2 : l2.length ≤ c2) (h : emendationref05_Chunks.f l0 l1 l2 = some r) :
    Calls Try.prog 52 #[.slice A0 l0.length c0, .slice A1 l1.length c1, .slice A2 l2.length c2] w fun e w' => ∃ v0_ : Value, e = .returned v0_ ∧ Kd.R k113 113 w' w.heap.size (fun _ => True) v0_ r ∧ Below w.heap.size w w' := by
  unfold emendationref05_Chunks.f at h
  split at h
  · rename_i hlen
    obtain ⟨n0, n1, n2⟩ := hlen
    have hR := Option.some.inj h
    have HT0 := Aside0.mk (Tot.start l0 l1 l2)
    rw [hR] at HT0
    have HP := Aside0.mk (prs_length0 l0 l1)
    have HQ := Aside0.mk (prs_length0 l0 l2)
    have hpl : (prs l0 l1 0 0).length ≤ 1000000 := by have := HP.out; have := lcs_le_left l0 l1; omega
    have hql : (prs l0 l2 0 0).length ≤ 1000000 := by have := HQ.out; have := lcs_le_left l0 l2; omega
    have HPL := Aside0.mk hpl
    have HQL := Aside0.mk hql
    have HR0 := Aside0.mk hr0
    have HR1 := Aside0.mk hr1
    have HR2 := Aside0.mk hr2
    have HC0 := Aside0.mk hc0
    have HC1 := Aside0.mk hc1
    have HC2 := Aside0.mk hc2
    clear h hR hr0 hr1 hr2 hc0 hc1 hc2 HP HQ hpl hql
    have K1 := Aside0.mk (fun (W : World) (hb : Below w.heap.size w W) => refPairs_calls A0 c0 l0 A1 c1 l1 W n0 n1 (Kd.C_below HR0.out hb) HC0.out (Kd.C_below HR1.out hb) HC1.out)
    have K2 := Aside0.mk (fun (W : World) (hb : Below w.heap.size w W) => refPairs_calls A0 c0 l0 A2 c2 l2 W n0 n2 (Kd.C_below HR0.out hb) HC0.out (Kd.C_below HR2.out hb) HC2.out)
    generalize prs l0 l1 0 0 = P at *
    generalize prs l0 l2 0 0 = Q at *
    go_enter Try.func52, Try.ntmps52
    go_wp2_with (first
      | (go_at_call 36; refine (K1.out _ (Below.refl _ _)).mono ?_; rintro e w1 ⟨v1, rfl, ho1, hb1⟩; have HO1 := Aside0.mk ho1; have HB1 := Aside0.mk hb1; clear ho1 hb1 K1; obtain ⟨Ap, cp, ep⟩ := Kd.R_slice HO1.out; subst ep)
      | (go_at_call 36; refine (K2.out _ HB1.out).mono ?_; rintro e w2 ⟨v2, rfl, ho2, hb2⟩; have HO2 := Aside0.mk ho2; have HB2 := Aside0.mk hb2; clear ho2 hb2 K2; obtain ⟨Aq, cq, eq⟩ := Kd.R_slice HO2.out; subst eq))
    have hbp : Kd.C k91 w2 Ap P.length (P.map P91) := by have h := Kd.C_below (Kd.R_reads' HO1.out).2.2 HB2.out; rw [List.length_map] at h; exact h
    have hbq : Kd.C k91 w2 Aq Q.length (Q.map P91) := by have h := (Kd.R_reads' HO2.out).2.2; rw [List.length_map] at h; exact h
    have hcp : P.length ≤ cp := by have h := (Kd.R_reads' HO1.out).2.1; rw [List.length_map] at h; exact h
    have hcq : Q.length ≤ cq := by have h := (Kd.R_reads' HO2.out).2.1; rw [List.length_map] at h; exact h
    have KP := Aside0.mk (fun (i : Nat) (a : Int) (ha : (i : Int) = a) (W : World) (hb : Below w2.heap.size w2 W) => show Calls Try.prog 80 #[.slice Ap P.length cp, .int .i64 a] W fun e w' => e = .returned (.int .i64 (kv P i)) ∧ Drawn0 W w' by rw [← ha]; exact kept_calls Ap cp P i W HPL.out (Kd.C_below hbp hb) hcp)
    have KQ := Aside0.mk (fun (i : Nat) (a : Int) (ha : (i : Int) = a) (W : World) (hb : Below w2.heap.size w2 W) => show Calls Try.prog 80 #[.slice Aq Q.length cq, .int .i64 a] W fun e w' => e = .returned (.int .i64 (kv Q i)) ∧ Drawn0 W w' by rw [← ha]; exact kept_calls Aq cq Q i W HQL.out (Kd.C_below hbq hb) hcq)
    have HBw := Aside0.mk (below_step HB1.out HB2.out)
    have hr0 := Aside0.mk (Kd.C_below HR0.out HBw.out)
    have hr1 := Aside0.mk (Kd.C_below HR1.out HBw.out)
    have hr2 := Aside0.mk (Kd.C_below HR2.out HBw.out)
    clear hbp hbq hcp hcq HO1 HO2 HB1 HB2 HR0 HR1 HR2
    go_loopw [9, 10, 11, 12] (fun v9 v10 v11 v12 wr => ∃ (out : List S113) (x y z : Nat) (V9 : Value), v9 = V9 ∧ v10 = .int .i64 (x : Int) ∧ v11 = .int .i64 (y : Int) ∧ v12 = .int .i64 (z : Int) ∧ Aside0 (Tot l0 l1 l2 P Q r x y z out) ∧ Aside0 (Kd.R k113 113 wr w2.heap.size (fun _ => True) V9 out) ∧ Aside0 (Below w2.heap.size w2 wr)) (fun _ v10 v11 v12 _ => (((l0.length : Int) - intOf v10) + ((l1.length : Int) - intOf v11) + ((l2.length : Int) - intOf v12)).toNat)
    case atStart => exact ⟨[], 0, 0, 0, _, rfl, rfl, rfl, rfl, HT0, ⟨Kd.R_nil _ _ _ _ _⟩, ⟨Below.refl _ _⟩⟩
    case round =>
      clear HT0
      obtain ⟨out, x, y, z, V9, hV9, rfl, rfl, rfl, HT, HO, HB⟩ := hrel
      replace hV9 := hV9.symm
      subst hV9
      obtain ⟨bx, b_y, bz⟩ := HT.out.chain.le
      have HL := Aside0.mk (show out.length ≤ 300000 by have := HT.out.len; omega)
      go_upto_region 4 with (fail)
      go_cut [37] (fun v37 wc => ∃ b : Bool, v37 = .bool b ∧ Aside0 (b = true ↔ (x < l0.length ∨ y < l1.length ∨ z < l2.length)) ∧ Aside0 (Kd.R k113 113 wc w2.heap.size (fun _ => True) V9 out) ∧ Aside0 (Below w2.heap.size w2 wc))
      case first =>
        by_cases d1 : x < l0.length
        · have d1b : decide ((x : Int) < (l0.length : Int)) = true := decide_eq_true (by omega)
          have F := Aside0.mk (show (x < l0.length ∨ y < l1.length ∨ z < l2.length) from Or.inl d1)
          go_wp2
          go_meet
          case rel => exact ⟨true, rfl, ⟨⟨fun _ => F.out, fun _ => rfl⟩⟩, HO, HB⟩
        · have d1b : decide ((x : Int) < (l0.length : Int)) = false := decide_eq_false (by omega)
          by_cases d2 : y < l1.length
          · have d2b : decide ((y : Int) < (l1.length : Int)) = true := decide_eq_true (by omega)
            have F := Aside0.mk (show (x < l0.length ∨ y < l1.length ∨ z < l2.length) from Or.inr (Or.inl d2))
            go_wp2
            go_meet
            case rel => exact ⟨true, rfl, ⟨⟨fun _ => F.out, fun _ => rfl⟩⟩, HO, HB⟩
          · have d2b : decide ((y : Int) < (l1.length : Int)) = false := decide_eq_false (by omega)
            by_cases d3 : z < l2.length
            · have d3b : decide ((z : Int) < (l2.length : Int)) = true := decide_eq_true (by omega)
              have F := Aside0.mk (show (x < l0.length ∨ y < l1.length ∨ z < l2.length) from Or.inr (Or.inr d3))
              go_wp2
              go_meet
              case rel => exact ⟨true, rfl, ⟨⟨fun _ => F.out, fun _ => rfl⟩⟩, HO, HB⟩
            · have d3b : decide ((z : Int) < (l2.length : Int)) = false := decide_eq_false (by omega)
              have F := Aside0.mk (show ¬ (x < l0.length ∨ y < l1.length ∨ z < l2.length) from by omega)
              go_wp2
              go_meet
              case rel => exact ⟨false, rfl, ⟨⟨fun h => (Bool.false_ne_true h).elim, fun h => absurd h F.out⟩⟩, HO, HB⟩
      case rest =>
        clear HO HB
        obtain ⟨b, rfl, F, HO, HB⟩ := hcut
        cases b with
        | false =>
          have hd := HT.out.done (fun h => Bool.false_ne_true (F.out.2 h))
          subst hd
          have HO' := HO.out
          have HB' := HB.out
          clear HT F HO HB
          go_wp2
          go_ret
          exact ⟨_, rfl, Kd.R_lower HO' HBw.out.size, below_step HBw.out HB'⟩
        | true =>
          have hin := Aside0.mk (F.out.1 rfl)
          clear F
          obtain ⟨wo, hwo⟩ : ∃ wo : World, wo = wc := ⟨_, rfl⟩
          subst hwo
          go_upto_block 2 with (fail)
          go_cut [13] (fun v13 wc => ∃ n : Nat, v13 = .int .i64 (n : Int) ∧ Aside0 (n = runl x y z (trs P Q x (l0.length - x))) ∧ Aside0 (x + n ≤ l0.length) ∧ Aside0 (Kd.R k113 113 wc w2.heap.size (fun _ => True) V9 out) ∧ Aside0 (Below w2.heap.size w2 wc))
          case first =>
            go_wp2
            go_loopw [13] (fun v13 wr2 => ∃ n : Nat, v13 = .int .i64 (n : Int) ∧ Aside0 (x + n ≤ l0.length) ∧ Aside0 (n + runl (x + n) (y + n) (z + n) (trs P Q (x + n) (l0.length - (x + n))) = runl x y z (trs P Q x (l0.length - x))) ∧ Aside0 (Kd.R k113 113 wr2 w2.heap.size (fun _ => True) V9 out) ∧ Aside0 (Below w2.heap.size w2 wr2)) (fun v13 _ => ((l0.length : Int) - (x : Int) - intOf v13).toNat)
            case atStart => exact ⟨0, rfl, ⟨bx⟩, ⟨by simp⟩, HO, HB⟩
            case round =>
              clear HO HB
              obtain ⟨n, rfl, HN, HE, HO, HB⟩ := hrel
              have hn := HN.out
              by_cases h1 : x + n < l0.length
              · have h1b : decide ((x : Int) + (n : Int) < (l0.length : Int)) = true := decide_eq_true (by omega)
                by_cases h2 : kp P (x + n) = some (y + n)
                · have E2 := Aside0.mk (show kv P (x + n) = (y : Int) + (n : Int) by rw [kv_some h2]; exact Int.natCast_add y n)
                  by_cases h3 : kp Q (x + n) = some (z + n)
                  · have E3 := Aside0.mk (show kv Q (x + n) = (z : Int) + (n : Int) by rw [kv_some h3]; exact Int.natCast_add z n)
                    have HE2 := Aside0.mk (runl_more P Q x y z n l0.length _ HE.out h1 h2 h3)
                    clear h2 h3
                    go_wp2_with (first | (go_at_call 80; (with_reducible refine (KP.out (x + n) _ (Int.natCast_add x n) _ HB.out).mono ?_); rintro e w4 ⟨rfl, hd⟩; obtain ⟨q, rfl⟩ := hd.out; have n0_ := Aside0.mk (Kd.R_drewN HO.out q); have n1_ := Aside0.mk (pw_below_drewN HB.out q); clear HO HB hd; have HO := n0_; have HB := n1_; clear n0_ n1_; rw [E2.out]) | (go_at_call 80; (with_reducible refine (KQ.out (x + n) _ (Int.natCast_add x n) _ HB.out).mono ?_); rintro e w4 ⟨rfl, hd⟩; obtain ⟨q, rfl⟩ := hd.out; have n0_ := Aside0.mk (Kd.R_drewN HO.out q); have n1_ := Aside0.mk (pw_below_drewN HB.out q); clear HO HB hd; have HO := n0_; have HB := n1_; clear n0_ n1_; rw [E3.out]))
                    go_roundw
                    case rel => exact ⟨n + 1, by go_num, ⟨by omega⟩, HE2, ⟨by first | exact HO.out | (have h := HO.out; simpa only [World.drewN_drewN] using h)⟩, ⟨by first | exact HB.out | (have h := HB.out; simpa only [World.drewN_drewN] using h)⟩⟩
                    case measure => simp [intOf]; omega
                  · have h3b : (kv Q (x + n) == (z : Int) + (n : Int)) = false := by rw [beq_eq_false_iff_ne]; exact fun h => h3 ((kv_eq _ _ _).1 (h.trans (Int.natCast_add z n).symm))
                    have HX := Aside0.mk (runl_end P Q x y z n l0.length _ HE.out (Or.inr (fun h => h3 h.2)))
                    clear h2 h3
                    go_wp2_with (first | (go_at_call 80; (with_reducible refine (KP.out (x + n) _ (Int.natCast_add x n) _ HB.out).mono ?_); rintro e w4 ⟨rfl, hd⟩; obtain ⟨q, rfl⟩ := hd.out; have n0_ := Aside0.mk (Kd.R_drewN HO.out q); have n1_ := Aside0.mk (pw_below_drewN HB.out q); clear HO HB hd; have HO := n0_; have HB := n1_; clear n0_ n1_; rw [E2.out]) | (go_at_call 80; (with_reducible refine (KQ.out (x + n) _ (Int.natCast_add x n) _ HB.out).mono ?_); rintro e w4 ⟨rfl, hd⟩; obtain ⟨q, rfl⟩ := hd.out; have n0_ := Aside0.mk (Kd.R_drewN HO.out q); have n1_ := Aside0.mk (pw_below_drewN HB.out q); clear HO HB hd; have HO := n0_; have HB := n1_; clear n0_ n1_))
                    go_meet
                    case rel => exact ⟨n, rfl, HX, HN, ⟨by first | exact HO.out | (have h := HO.out; simpa only [World.drewN_drewN] using h)⟩, ⟨by first | exact HB.out | (have h := HB.out; simpa only [World.drewN_drewN] using h)⟩⟩
                · have h2b : (kv P (x + n) == (y : Int) + (n : Int)) = false := by rw [beq_eq_false_iff_ne]; exact fun h => h2 ((kv_eq _ _ _).1 (h.trans (Int.natCast_add y n).symm))
                  have HX := Aside0.mk (runl_end P Q x y z n l0.length _ HE.out (Or.inr (fun h => h2 h.1)))
                  clear h2
                  go_wp2_with (first | (go_at_call 80; (with_reducible refine (KP.out (x + n) _ (Int.natCast_add x n) _ HB.out).mono ?_); rintro e w4 ⟨rfl, hd⟩; obtain ⟨q, rfl⟩ := hd.out; have n0_ := Aside0.mk (Kd.R_drewN HO.out q); have n1_ := Aside0.mk (pw_below_drewN HB.out q); clear HO HB hd; have HO := n0_; have HB := n1_; clear n0_ n1_))
                  go_meet
                  case rel => exact ⟨n, rfl, HX, HN, ⟨by first | exact HO.out | (have h := HO.out; simpa only [World.drewN_drewN] using h)⟩, ⟨by first | exact HB.out | (have h := HB.out; simpa only [World.drewN_drewN] using h)⟩⟩
              · have h1b : decide ((x : Int) + (n : Int) < (l0.length : Int)) = false := decide_eq_false (by omega)
                have HX := Aside0.mk (runl_end P Q x y z n l0.length _ HE.out (Or.inl h1))
                go_wp2
                go_meet
                case rel => exact ⟨n, rfl, HX, HN, ⟨by first | exact HO.out | (have h := HO.out; simpa only [World.drewN_drewN] using h)⟩, ⟨by first | exact HB.out | (have h := HB.out; simpa only [World.drewN_drewN] using h)⟩⟩
          case rest =>
            clear HO HB
            obtain ⟨n, rfl, HX, HN, HO, HB⟩ := hcut
            obtain ⟨wx, hwx⟩ : ∃ wx : World, wx = wc := ⟨_, rfl⟩
            subst hwx
            have hn := HN.out
            by_cases h0 : 0 < n
            · have h0b : ((n : Int) == 0) = false := by rw [beq_eq_false_iff_ne]; omega
              have HT2 := Aside0.mk (HT.out.run n HX.out h0)
              have ML := Aside0.mk (show y + n ≤ l1.length ∧ z + n ≤ l2.length from ⟨HT2.out.chain.le.2.1, HT2.out.chain.le.2.2⟩)
              have ml := ML.out
              clear HT HX hin
              go_upto_region 9 with (fail)
              have hV := heap_alloc_new wx (Obj.cells #[.int .i64 ((x : Int)), .int .i64 ((x : Int) + (n : Int)), .int .i64 ((y : Int)), .int .i64 ((y : Int) + (n : Int)), .int .i64 ((z : Int)), .int .i64 ((z : Int) + (n : Int)), .int .i64 (1)] 113)
              have HO2 := Aside0.mk (Kd.R_alloc HO.out (Obj.cells #[.int .i64 ((x : Int)), .int .i64 ((x : Int) + (n : Int)), .int .i64 ((y : Int)), .int .i64 ((y : Int) + (n : Int)), .int .i64 ((z : Int)), .int .i64 ((z : Int) + (n : Int)), .int .i64 (1)] 113))
              have HB2 := Aside0.mk (below_alloc HB.out (Obj.cells #[.int .i64 ((x : Int)), .int .i64 ((x : Int) + (n : Int)), .int .i64 ((y : Int)), .int .i64 ((y : Int) + (n : Int)), .int .i64 ((z : Int)), .int .i64 ((z : Int) + (n : Int)), .int .i64 (1)] 113))
              have HNE := Aside0.mk (show some wx.heap.size ≠ V9.ownBlock from fun he => Nat.lt_irrefl _ ((Kd.R_bound HO.out).1 _ he.symm).2.2.1)
              have PL := Aside0.mk (blk_lt hV)
              have PB := Aside0.mk HB.out.size
              clear HO HB
              generalize wx.alloc (Obj.cells #[.int .i64 ((x : Int)), .int .i64 ((x : Int) + (n : Int)), .int .i64 ((y : Int)), .int .i64 ((y : Int) + (n : Int)), .int .i64 ((z : Int)), .int .i64 ((z : Int) + (n : Int)), .int .i64 (1)] 113) = W at hV HO2 HB2 PL ⊢
              generalize wx.heap.size = p at hV HO2 HNE PL PB ⊢
              have H2 := Aside0.mk hV
              clear hV
              have e0c : W.cell? ⟨p, 0, none⟩ = some (.int .i64 ((x : Int))) := (blk_cell H2.out 0).trans rfl
              have e1c : W.cell? ⟨p, 1, none⟩ = some (.int .i64 ((x : Int) + (n : Int))) := (blk_cell H2.out 1).trans rfl
              have e2c : W.cell? ⟨p, 2, none⟩ = some (.int .i64 ((y : Int))) := (blk_cell H2.out 2).trans rfl
              have e3c : W.cell? ⟨p, 3, none⟩ = some (.int .i64 ((y : Int) + (n : Int))) := (blk_cell H2.out 3).trans rfl
              have e4c : W.cell? ⟨p, 4, none⟩ = some (.int .i64 ((z : Int))) := (blk_cell H2.out 4).trans rfl
              have e5c : W.cell? ⟨p, 5, none⟩ = some (.int .i64 ((z : Int) + (n : Int))) := (blk_cell H2.out 5).trans rfl
              have e6c : W.cell? ⟨p, 6, none⟩ = some (.int .i64 (1)) := (blk_cell H2.out 6).trans rfl
              go_wp2_with (first | ((with_reducible refine gate_builtin (b := .append) (xs := #[.tmp 150, .tmp 152]) rfl ?_); at_builtin; refine Kd.R_append k113 (w0 := w2) w2.heap.size rfl (.tmp 150) (.tmp 152) 64 113 (.agg #[.int .i64 0, .int .i64 0, .int .i64 0, .int .i64 0, .int .i64 0, .int .i64 0, .int .i64 0]) 56 rfl Try.underlying64 info113 rfl (by decide) (by omega) V9 out (⟨⟨(x : Int), (x : Int) + (n : Int)⟩, ⟨(y : Int), (y : Int) + (n : Int)⟩, ⟨(z : Int), (z : Int) + (n : Int)⟩, 1⟩ : S113) [.int .i64 ((x : Int)), .int .i64 ((x : Int) + (n : Int)), .int .i64 ((y : Int)), .int .i64 ((y : Int) + (n : Int)), .int .i64 ((z : Int)), .int .i64 ((z : Int) + (n : Int)), .int .i64 (1)] (fun _ => True) (fun _ => False) rfl rfl ?aP (fun _ hk => hk.elim) ?aF ?aO ?aB ?aS ?aL ?_; (case aP => exact k113_mkM _ _ _ (⟨⟨(x : Int), (x : Int) + (n : Int)⟩, ⟨(y : Int), (y : Int) + (n : Int)⟩, ⟨(z : Int), (z : Int) + (n : Int)⟩, 1⟩ : S113)); (case aB => exact HB2.out); (case aF => exact (fun _ _ => trivial)); (case aO => exact HO2.out); (case aS => exact HB2.out.size); (case aL => have := HL.out; omega); intro v103 w6 ho hb hg hat; have n0_ := Aside0.mk hb; have n1_ := Aside0.mk ho; have hV6 := (hg.block p PL.out HNE.out).trans H2.out; clear e0c e1c e2c e3c e4c e5c e6c HB2 HO2 ho hb hg hat; have e1c := (blk_cell hV6 1).trans rfl; have e3c := (blk_cell hV6 3).trans rfl; have e5c := (blk_cell hV6 5).trans rfl; clear hV6))
              go_quiet (fail)
              try go_wp2
              go_roundw
              case rel => exact ⟨_, x + n, y + n, z + n, _, rfl, by go_num, by go_num, by go_num, HT2, ⟨by first | exact n1_.out | exact Kd.R_drewN n1_.out _ | exact Kd.R_drew n1_.out⟩, ⟨by first | exact n0_.out | exact pw_below_drewN n0_.out _ | exact below_drew1 n0_.out⟩⟩
              case measure => simp [intOf]; have := ML.out; omega
            · obtain rfl : n = 0 := by omega
              obtain ⟨i, j, k, a1, a2, a3, a4, a5, ht2⟩ := HT.out.gap HX.out.symm hin.out
              have HT2 := Aside0.mk ht2
              have AI := Aside0.mk (ahead_is l0 l1 l2 P Q x (l0.length - x) i j k (by omega) a1)
              have AH := Aside0.mk a1
              clear HT HX hin ht2 a1 h0 hn
              rw [show ((0 : Nat) : Int) = 0 from rfl]
              go_upto_region 10 with (fail)
              have hV := heap_alloc_new wx (Obj.cells #[.int .i64 ((x : Int)), .int .i64 ((x : Int)), .int .i64 ((y : Int)), .int .i64 ((y : Int)), .int .i64 ((z : Int)), .int .i64 ((z : Int)), .int .i64 (1)] 113)
              have HO2 := Aside0.mk (row_new113 HO.out (Obj.cells #[.int .i64 ((x : Int)), .int .i64 ((x : Int)), .int .i64 ((y : Int)), .int .i64 ((y : Int)), .int .i64 ((z : Int)), .int .i64 ((z : Int)), .int .i64 (1)] 113))
              have HB2 := Aside0.mk (below_alloc HB.out (Obj.cells #[.int .i64 ((x : Int)), .int .i64 ((x : Int)), .int .i64 ((y : Int)), .int .i64 ((y : Int)), .int .i64 ((z : Int)), .int .i64 ((z : Int)), .int .i64 (1)] 113))
              have HNE := Aside0.mk (show some wx.heap.size ≠ V9.ownBlock from fun he => Nat.lt_irrefl _ ((Kd.R_bound HO.out).1 _ he.symm).2.2.1)
              have PL := Aside0.mk (blk_lt hV)
              have PB := Aside0.mk HB.out.size
              clear HO HB
              generalize wx.alloc (Obj.cells #[.int .i64 ((x : Int)), .int .i64 ((x : Int)), .int .i64 ((y : Int)), .int .i64 ((y : Int)), .int .i64 ((z : Int)), .int .i64 ((z : Int)), .int .i64 (1)] 113) = W at hV HO2 HB2 PL ⊢
              generalize wx.heap.size = p at hV HO2 HNE PL PB ⊢
              have H2 := Aside0.mk hV
              clear hV
              go_upto_block 4 with (fail)
              go_cut [15] (fun v15 wc => v15 = .int .i64 (i : Int) ∧ ∃ q : Nat, wc = W.drewN q)
              case first =>
                go_wp2
                go_loopw [15] (fun v15 wr3 => ∃ i' q : Nat, v15 = .int .i64 (i' : Int) ∧ wr3 = W.drewN q ∧ Aside0 (i' ≤ i) ∧ Aside0 (trs P Q x (l0.length - x) = trs P Q i' (l0.length - i'))) (fun v15 _ => ((l0.length : Int) - intOf v15).toNat)
                case atStart => exact ⟨x, 0, rfl, rfl, ⟨a2.1⟩, ⟨rfl⟩⟩
                case round =>
                  obtain ⟨i', q0, rfl, rfl, HI, HE⟩ := hrel
                  have hi := HI.out
                  by_cases hii : i' = i
                  · subst hii
                    by_cases hl : i' < l0.length
                    · obtain ⟨k1, k2⟩ := AI.out.1 hl
                      have h1b : decide ((i' : Int) < (l0.length : Int)) = true := decide_eq_true (by omega)
                      have E2 := Aside0.mk (kv_some k1)
                      have E3 := Aside0.mk (kv_some k2)
                      have hj : decide ((j : Int) < 0) = false := decide_eq_false (by omega)
                      have hk : decide ((k : Int) < 0) = false := decide_eq_false (by omega)
                      clear k1 k2
                      go_wp2_with (first | (go_at_call 80; (with_reducible refine (KP.out i' _ rfl _ (pw_below_drewN HB2.out _)).mono ?_); rintro e w4 ⟨rfl, hd⟩; obtain ⟨q, rfl⟩ := hd.out; clear hd; rw [E2.out]) | (go_at_call 80; (with_reducible refine (KQ.out i' _ rfl _ (pw_below_drewN HB2.out _)).mono ?_); rintro e w4 ⟨rfl, hd⟩; obtain ⟨q, rfl⟩ := hd.out; clear hd; rw [E3.out]))
                      go_meet
                      case rel => exact ⟨rfl, _, rfl⟩
                    · have h1b : decide ((i' : Int) < (l0.length : Int)) = false := decide_eq_false (by omega)
                      go_wp2
                      go_meet
                      case rel => exact ⟨rfl, _, rfl⟩
                  · have hl : i' < l0.length := by omega
                    have h1b : decide ((i' : Int) < (l0.length : Int)) = true := decide_eq_true (by omega)
                    cases k1 : kp P i' with
                    | none =>
                      have E2 := Aside0.mk (kv_none k1)
                      have HE2 := Aside0.mk (HE.out.trans (trs_skip P Q i' l0.length hl (Or.inl k1)))
                      clear k1
                      go_wp2_with (first | (go_at_call 80; (with_reducible refine (KP.out i' _ rfl _ (pw_below_drewN HB2.out _)).mono ?_); rintro e w4 ⟨rfl, hd⟩; obtain ⟨q, rfl⟩ := hd.out; clear hd; rw [E2.out]))
                      go_roundw
                      case rel => exact ⟨i' + 1, _, by go_num, rfl, ⟨by omega⟩, HE2⟩
                      case measure => simp [intOf]; omega
                    | some j' =>
                      cases k2 : kp Q i' with
                      | none =>
                        have E2 := Aside0.mk (kv_some k1)
                        have E3 := Aside0.mk (kv_none k2)
                        have hj : decide ((j' : Int) < 0) = false := decide_eq_false (by omega)
                        have HE2 := Aside0.mk (HE.out.trans (trs_skip P Q i' l0.length hl (Or.inr k2)))
                        clear k1 k2
                        go_wp2_with (first | (go_at_call 80; (with_reducible refine (KP.out i' _ rfl _ (pw_below_drewN HB2.out _)).mono ?_); rintro e w4 ⟨rfl, hd⟩; obtain ⟨q, rfl⟩ := hd.out; clear hd; rw [E2.out]) | (go_at_call 80; (with_reducible refine (KQ.out i' _ rfl _ (pw_below_drewN HB2.out _)).mono ?_); rintro e w4 ⟨rfl, hd⟩; obtain ⟨q, rfl⟩ := hd.out; clear hd; rw [E3.out]))
                        go_roundw
                        case rel => exact ⟨i' + 1, _, by go_num, rfl, ⟨by omega⟩, HE2⟩
                        case measure => simp [intOf]; omega
                      | some k' =>
                        exfalso
                        have h := AH.out
                        rw [HE.out, trs_here P Q i' l0.length j' k' hl k1 k2] at h
                        have h' := congrArg Prod.fst h
                        exact hii (Int.ofNat.inj h')
              case rest =>
                obtain ⟨rfl, q0, rfl⟩ := hcut
                have ml := show (x ≤ i ∧ i ≤ l0.length) ∧ (y ≤ j ∧ j ≤ l1.length) ∧ (z ≤ k ∧ k ≤ l2.length) ∧ x + y + z < i + j + k from ⟨a2, a3, a4, a5⟩
                have ML := Aside0.mk ml
                have e0d : W.cell? ⟨p, 0, none⟩ = some (.int .i64 ((x : Int))) := (blk_cell H2.out 0).trans rfl
                have f0d := blk_frozen H2.out 0
                have e1d : W.cell? ⟨p, 1, none⟩ = some (.int .i64 ((x : Int))) := (blk_cell H2.out 1).trans rfl
                have f1d := blk_frozen H2.out 1
                have e2d : W.cell? ⟨p, 2, none⟩ = some (.int .i64 ((y : Int))) := (blk_cell H2.out 2).trans rfl
                have f2d := blk_frozen H2.out 2
                have e3d : W.cell? ⟨p, 3, none⟩ = some (.int .i64 ((y : Int))) := (blk_cell H2.out 3).trans rfl
                have f3d := blk_frozen H2.out 3
                have e4d : W.cell? ⟨p, 4, none⟩ = some (.int .i64 ((z : Int))) := (blk_cell H2.out 4).trans rfl
                have f4d := blk_frozen H2.out 4
                have e5d : W.cell? ⟨p, 5, none⟩ = some (.int .i64 ((z : Int))) := (blk_cell H2.out 5).trans rfl
                have f5d := blk_frozen H2.out 5
                have e6d : W.cell? ⟨p, 6, none⟩ = some (.int .i64 (1)) := (blk_cell H2.out 6).trans rfl
                have f6d := blk_frozen H2.out 6
                by_cases hl : i < l0.length
                · obtain ⟨k1, k2⟩ := AI.out.1 hl
                  have h1b : decide ((i : Int) < (l0.length : Int)) = true := decide_eq_true (by omega)
                  have E2 := Aside0.mk (kv_some k1)
                  have E3 := Aside0.mk (kv_some k2)
                  clear k1 k2
                  go_upto_region 16 with (first | (go_at_call 80; (with_reducible refine (KP.out i _ rfl _ (pw_below_drewN HB2.out _)).mono ?_); rintro e w4 ⟨rfl, hd⟩; obtain ⟨qa, rfl⟩ := hd.out; clear hd; rw [E2.out]) | (go_at_call 80; (with_reducible refine (KQ.out i _ rfl _ (pw_below_drewN HB2.out _)).mono ?_); rintro e w4 ⟨rfl, hd⟩; obtain ⟨qb, rfl⟩ := hd.out; clear hd; rw [E3.out]))
                  have HY2 := Aside0.mk (show (W.drewN (q0 + qa + qb)).heap[p]? = some (.cells #[.int .i64 ((x : Int)), .int .i64 ((x : Int)), .int .i64 ((y : Int)), .int .i64 ((y : Int)), .int .i64 ((z : Int)), .int .i64 ((z : Int)), .int .i64 (1)] 113 (0, 0)) from H2.out)
                  have HOY := Aside0.mk (Kd.R_drewN HO2.out (q0 + qa + qb))
                  have HBY := Aside0.mk (pw_below_drewN HB2.out (q0 + qa + qb))
                  have PLY := Aside0.mk (show p < (W.drewN (q0 + qa + qb)).heap.size from PL.out)
                  clear H2 HO2 HB2 PL e0d f0d e1d f1d e2d f2d e3d f3d e4d f4d e5d f5d e6d f6d
                  generalize W.drewN (q0 + qa + qb) = Y at HY2 HOY HBY PLY ⊢
                  have g1 := Aside0.mk (show (((((((Y.setCell ⟨p, 0, none⟩ (.int .i64 ((x : Int)))).setCell ⟨p, 1, none⟩ (.int .i64 ((i : Int)))).setCell ⟨p, 2, none⟩ (.int .i64 ((y : Int)))).setCell ⟨p, 3, none⟩ (.int .i64 ((j : Int)))).setCell ⟨p, 4, none⟩ (.int .i64 ((z : Int)))).setCell ⟨p, 5, none⟩ (.int .i64 ((k : Int)))).setCell ⟨p, 6, none⟩ (.int .i64 (0))).heap[p]? = some (.cells #[.int .i64 ((x : Int)), .int .i64 ((i : Int)), .int .i64 ((y : Int)), .int .i64 ((j : Int)), .int .i64 ((z : Int)), .int .i64 ((k : Int)), .int .i64 (0)] 113 (0, 0)) from (blk_set (blk_set (blk_set (blk_set (blk_set (blk_set (blk_set HY2.out 0 (.int .i64 ((x : Int)))) 1 (.int .i64 ((i : Int)))) 2 (.int .i64 ((y : Int)))) 3 (.int .i64 ((j : Int)))) 4 (.int .i64 ((z : Int)))) 5 (.int .i64 ((k : Int)))) 6 (.int .i64 (0))))
                  have KU := Aside0.mk (KeepBut.set_ (KeepBut.set_ (KeepBut.set_ (KeepBut.set_ (KeepBut.set_ (KeepBut.set_ (KeepBut.set_ (KeepBut.refl Y p none) 0 (.int .i64 ((x : Int)))) 1 (.int .i64 ((i : Int)))) 2 (.int .i64 ((y : Int)))) 3 (.int .i64 ((j : Int)))) 4 (.int .i64 ((z : Int)))) 5 (.int .i64 ((k : Int)))) 6 (.int .i64 (0)))
                  have BU := Aside0.mk (Below.setCell (Below.setCell (Below.setCell (Below.setCell (Below.setCell (Below.setCell (Below.setCell HBY.out (p := ⟨p, 0, none⟩) PB.out (.int .i64 ((x : Int)))) (p := ⟨p, 1, none⟩) PB.out (.int .i64 ((i : Int)))) (p := ⟨p, 2, none⟩) PB.out (.int .i64 ((y : Int)))) (p := ⟨p, 3, none⟩) PB.out (.int .i64 ((j : Int)))) (p := ⟨p, 4, none⟩) PB.out (.int .i64 ((z : Int)))) (p := ⟨p, 5, none⟩) PB.out (.int .i64 ((k : Int)))) (p := ⟨p, 6, none⟩) PB.out (.int .i64 (0)))
                  have PU := Aside0.mk (show p < (((((((Y.setCell ⟨p, 0, none⟩ (.int .i64 ((x : Int)))).setCell ⟨p, 1, none⟩ (.int .i64 ((i : Int)))).setCell ⟨p, 2, none⟩ (.int .i64 ((y : Int)))).setCell ⟨p, 3, none⟩ (.int .i64 ((j : Int)))).setCell ⟨p, 4, none⟩ (.int .i64 ((z : Int)))).setCell ⟨p, 5, none⟩ (.int .i64 ((k : Int)))).setCell ⟨p, 6, none⟩ (.int .i64 (0))).heap.size from by have := PLY.out; simpa using this)
                  have OU := Aside0.mk (Kd.R_keep HOY.out KU.out (fun _ h => h))
                  clear HY2 HOY HBY PLY KU
                  generalize (((((((Y.setCell ⟨p, 0, none⟩ (.int .i64 ((x : Int)))).setCell ⟨p, 1, none⟩ (.int .i64 ((i : Int)))).setCell ⟨p, 2, none⟩ (.int .i64 ((y : Int)))).setCell ⟨p, 3, none⟩ (.int .i64 ((j : Int)))).setCell ⟨p, 4, none⟩ (.int .i64 ((z : Int)))).setCell ⟨p, 5, none⟩ (.int .i64 ((k : Int)))).setCell ⟨p, 6, none⟩ (.int .i64 (0))) = U at g1 BU PU OU ⊢
                  have e0u : U.cell? ⟨p, 0, none⟩ = some (.int .i64 ((x : Int))) := (blk_cell g1.out 0).trans rfl
                  have e1u : U.cell? ⟨p, 1, none⟩ = some (.int .i64 ((i : Int))) := (blk_cell g1.out 1).trans rfl
                  have e2u : U.cell? ⟨p, 2, none⟩ = some (.int .i64 ((y : Int))) := (blk_cell g1.out 2).trans rfl
                  have e3u : U.cell? ⟨p, 3, none⟩ = some (.int .i64 ((j : Int))) := (blk_cell g1.out 3).trans rfl
                  have e4u : U.cell? ⟨p, 4, none⟩ = some (.int .i64 ((z : Int))) := (blk_cell g1.out 4).trans rfl
                  have e5u : U.cell? ⟨p, 5, none⟩ = some (.int .i64 ((k : Int))) := (blk_cell g1.out 5).trans rfl
                  have e6u : U.cell? ⟨p, 6, none⟩ = some (.int .i64 (0)) := (blk_cell g1.out 6).trans rfl
                  have e6a := fun (q1 q2 q3 : Obj) => (blk_cell (blk_alloc (blk_alloc (blk_alloc g1.out q1) q2) q3) 6).trans rfl
                  have f6a := fun (q1 q2 q3 : Obj) => blk_frozen (blk_alloc (blk_alloc (blk_alloc g1.out q1) q2) q3) 6
                  obtain ⟨B0, d0, o0, r0, rc0⟩ := part_at x i A0 c0 l0 w2 ML.out.1.1 ML.out.1.2 hr0.out HC0.out
                  obtain ⟨B1, d1, o1, r1, rc1⟩ := part_at y j A1 c1 l1 w2 ML.out.2.1.1 ML.out.2.1.2 hr1.out HC1.out
                  obtain ⟨B2, d2, o2, r2, rc2⟩ := part_at z k A2 c2 l2 w2 ML.out.2.2.1.1 ML.out.2.2.1.2 hr2.out HC2.out
                  have s1 : (seg l1 y j).length ≤ 1000000 := by rw [seg_length _ _ _ ML.out.2.1.2]; omega
                  have s2 : (seg l2 z k).length ≤ 1000000 := by rw [seg_length _ _ _ ML.out.2.2.1.2]; omega
                  have OC := Aside0.mk (fun (W' : World) (hb : Below w2.heap.size w2 W') => out81_calls B0 d0 (seg l0 x i) B1 d1 (seg l1 y j) B2 d2 (seg l2 z k) W' s1 s2 (Kd.C_below r0 hb) rc0 (Kd.C_below r1 hb) rc1 (Kd.C_below r2 hb) rc2)
                  replace o0 := Aside0.mk o0
                  replace o1 := Aside0.mk o1
                  replace o2 := Aside0.mk o2
                  clear r0 r1 r2 rc0 rc1 rc2 s1 s2
                  go_region_held3 (fun w' => w'.cell? ⟨p, 0, none⟩ = some (.int .i64 ((x : Int))) ∧ w'.cell? ⟨p, 1, none⟩ = some (.int .i64 ((i : Int))) ∧ w'.cell? ⟨p, 2, none⟩ = some (.int .i64 ((y : Int))) ∧ w'.cell? ⟨p, 3, none⟩ = some (.int .i64 ((j : Int))) ∧ w'.cell? ⟨p, 4, none⟩ = some (.int .i64 ((z : Int))) ∧ w'.cell? ⟨p, 5, none⟩ = some (.int .i64 ((k : Int))))
                    (((try dsimp only); (repeat' apply And.intro) <;> (first | assumption | (refine cell_alloc _ ?_; assumption) | (refine cell_alloc _ ?_; refine cell_alloc _ ?_; assumption) | (refine cell_alloc _ ?_; refine cell_alloc _ ?_; refine cell_alloc _ ?_; assumption) | (simp [*, World.cell?_alloc_some, World.cell?_setCell_other]; done) | (go_simp; done) | (refine (World.cell?_setCell_other (by simp)).trans ?_; simp [*, World.cell?_alloc_some]; done) | (trace_state; fail))))
                    (first
                      | (go_at_call_of 82 (Value.slice A0 l0.length c0); refine (o0.out _).mono ?_; rintro e w' ⟨rfl, rfl⟩)
                      | (go_at_call_of 82 (Value.slice A1 l1.length c1); refine (o1.out _).mono ?_; rintro e w' ⟨rfl, rfl⟩)
                      | (go_at_call_of 82 (Value.slice A2 l2.length c2); refine (o2.out _).mono ?_; rintro e w' ⟨rfl, rfl⟩)
                      | (go_at_call 81; refine (OC.out _ (by repeat (first | exact BU.out | apply below_alloc | apply pw_below_drewN | apply below_drew1))).mono ?_; rintro e w' ⟨rfl, hd⟩; obtain ⟨qc, rfl⟩ := hd.out; clear hd))
                  go_upto_region 17 with (fail)
                  have H2 := Aside0.mk (show (((((U.alloc (Obj.cells #[.int .i64 (x : Int), .int .i64 (i : Int)] 111)).alloc (Obj.cells #[.int .i64 (y : Int), .int .i64 (j : Int)] 111)).alloc (Obj.cells #[.int .i64 (z : Int), .int .i64 (k : Int)] 111)).drewN (1 + qc)).setCell ⟨p, 6, none⟩ (.int .i64 (Wv.outc (seg l0 x i) (seg l1 y j) (seg l2 z k)))).heap[p]? = some (.cells #[.int .i64 ((x : Int)), .int .i64 ((i : Int)), .int .i64 ((y : Int)), .int .i64 ((j : Int)), .int .i64 ((z : Int)), .int .i64 ((k : Int)), .int .i64 (Wv.outc (seg l0 x i) (seg l1 y j) (seg l2 z k))] 113 (0, 0)) from blk_set (show ((((U.alloc (Obj.cells #[.int .i64 (x : Int), .int .i64 (i : Int)] 111)).alloc (Obj.cells #[.int .i64 (y : Int), .int .i64 (j : Int)] 111)).alloc (Obj.cells #[.int .i64 (z : Int), .int .i64 (k : Int)] 111)).drewN (1 + qc)).heap[p]? = _ from blk_alloc (blk_alloc (blk_alloc g1.out (Obj.cells #[.int .i64 (x : Int), .int .i64 (i : Int)] 111)) (Obj.cells #[.int .i64 (y : Int), .int .i64 (j : Int)] 111)) (Obj.cells #[.int .i64 (z : Int), .int .i64 (k : Int)] 111)) 6 (.int .i64 (Wv.outc (seg l0 x i) (seg l1 y j) (seg l2 z k))))
                  have HO2 := Aside0.mk (Kd.R_mono (ok' := fun _ => True) (Kd.R_keep (Kd.R_drewN (Kd.R_alloc (Kd.R_alloc (Kd.R_alloc OU.out (Obj.cells #[.int .i64 (x : Int), .int .i64 (i : Int)] 111)) (Obj.cells #[.int .i64 (y : Int), .int .i64 (j : Int)] 111)) (Obj.cells #[.int .i64 (z : Int), .int .i64 (k : Int)] 111)) (1 + qc)) (KeepBut.set_ (KeepBut.refl ((((U.alloc (Obj.cells #[.int .i64 (x : Int), .int .i64 (i : Int)] 111)).alloc (Obj.cells #[.int .i64 (y : Int), .int .i64 (j : Int)] 111)).alloc (Obj.cells #[.int .i64 (z : Int), .int .i64 (k : Int)] 111)).drewN (1 + qc)) p none) 6 (.int .i64 (Wv.outc (seg l0 x i) (seg l1 y j) (seg l2 z k)))) (fun _ h => h)) (fun _ _ => trivial))
                  have HB2 := Aside0.mk (Below.setCell (pw_below_drewN (below_alloc (below_alloc (below_alloc BU.out (Obj.cells #[.int .i64 (x : Int), .int .i64 (i : Int)] 111)) (Obj.cells #[.int .i64 (y : Int), .int .i64 (j : Int)] 111)) (Obj.cells #[.int .i64 (z : Int), .int .i64 (k : Int)] 111)) (1 + qc)) (p := ⟨p, 6, none⟩) PB.out (.int .i64 (Wv.outc (seg l0 x i) (seg l1 y j) (seg l2 z k))))
                  have PL := Aside0.mk (show p < (((((U.alloc (Obj.cells #[.int .i64 (x : Int), .int .i64 (i : Int)] 111)).alloc (Obj.cells #[.int .i64 (y : Int), .int .i64 (j : Int)] 111)).alloc (Obj.cells #[.int .i64 (z : Int), .int .i64 (k : Int)] 111)).drewN (1 + qc)).setCell ⟨p, 6, none⟩ (.int .i64 (Wv.outc (seg l0 x i) (seg l1 y j) (seg l2 z k)))).heap.size from by have := PU.out; simp; omega)
                  clear OC o0 o1 o2 g1 BU PU OU e6a f6a e0u e1u e2u e3u e4u e5u e6u
                  generalize (((((U.alloc (Obj.cells #[.int .i64 (x : Int), .int .i64 (i : Int)] 111)).alloc (Obj.cells #[.int .i64 (y : Int), .int .i64 (j : Int)] 111)).alloc (Obj.cells #[.int .i64 (z : Int), .int .i64 (k : Int)] 111)).drewN (1 + qc)).setCell ⟨p, 6, none⟩ (.int .i64 (Wv.outc (seg l0 x i) (seg l1 y j) (seg l2 z k)))) = W at H2 HO2 HB2 PL ⊢
                  have e0c : W.cell? ⟨p, 0, none⟩ = some (.int .i64 ((x : Int))) := (blk_cell H2.out 0).trans rfl
                  have e1c : W.cell? ⟨p, 1, none⟩ = some (.int .i64 ((i : Int))) := (blk_cell H2.out 1).trans rfl
                  have e2c : W.cell? ⟨p, 2, none⟩ = some (.int .i64 ((y : Int))) := (blk_cell H2.out 2).trans rfl
                  have e3c : W.cell? ⟨p, 3, none⟩ = some (.int .i64 ((j : Int))) := (blk_cell H2.out 3).trans rfl
                  have e4c : W.cell? ⟨p, 4, none⟩ = some (.int .i64 ((z : Int))) := (blk_cell H2.out 4).trans rfl
                  have e5c : W.cell? ⟨p, 5, none⟩ = some (.int .i64 ((k : Int))) := (blk_cell H2.out 5).trans rfl
                  have e6c : W.cell? ⟨p, 6, none⟩ = some (.int .i64 (Wv.outc (seg l0 x i) (seg l1 y j) (seg l2 z k))) := (blk_cell H2.out 6).trans rfl
                  go_wp2_with (first | ((with_reducible refine gate_builtin (b := .append) (xs := #[.tmp 150, .tmp 152]) rfl ?_); at_builtin; refine Kd.R_append k113 (w0 := w2) w2.heap.size rfl (.tmp 150) (.tmp 152) 64 113 (.agg #[.int .i64 0, .int .i64 0, .int .i64 0, .int .i64 0, .int .i64 0, .int .i64 0, .int .i64 0]) 56 rfl Try.underlying64 info113 rfl (by decide) (by omega) V9 out (⟨⟨(x : Int), (i : Int)⟩, ⟨(y : Int), (j : Int)⟩, ⟨(z : Int), (k : Int)⟩, Wv.outc (seg l0 x i) (seg l1 y j) (seg l2 z k)⟩ : S113) [.int .i64 ((x : Int)), .int .i64 ((i : Int)), .int .i64 ((y : Int)), .int .i64 ((j : Int)), .int .i64 ((z : Int)), .int .i64 ((k : Int)), .int .i64 (Wv.outc (seg l0 x i) (seg l1 y j) (seg l2 z k))] (fun _ => True) (fun _ => False) rfl rfl ?aP (fun _ hk => hk.elim) ?aF ?aO ?aB ?aS ?aL ?_; (case aP => exact k113_mkM _ _ _ (⟨⟨(x : Int), (i : Int)⟩, ⟨(y : Int), (j : Int)⟩, ⟨(z : Int), (k : Int)⟩, Wv.outc (seg l0 x i) (seg l1 y j) (seg l2 z k)⟩ : S113)); (case aB => exact HB2.out); (case aF => exact (fun _ _ => trivial)); (case aO => exact HO2.out); (case aS => exact HB2.out.size); (case aL => have := HL.out; omega); intro v103 w6 ho hb hg hat; have n0_ := Aside0.mk hb; have n1_ := Aside0.mk ho; have hV6 := (hg.block p PL.out HNE.out).trans H2.out; clear e0c e1c e2c e3c e4c e5c e6c HB2 HO2 ho hb hg hat; have e1c := (blk_cell hV6 1).trans rfl; have e3c := (blk_cell hV6 3).trans rfl; have e5c := (blk_cell hV6 5).trans rfl; clear hV6))
                  go_quiet (fail)
                  try go_wp2
                  go_roundw
                  case rel => exact ⟨_, i, j, k, _, rfl, rfl, rfl, rfl, HT2, ⟨by first | exact n1_.out | exact Kd.R_drewN n1_.out _ | exact Kd.R_drew n1_.out⟩, ⟨by first | exact n0_.out | exact pw_below_drewN n0_.out _ | exact below_drew1 n0_.out⟩⟩
                  case measure => simp [intOf]; have := ML.out; omega
                · obtain ⟨rfl, rfl, rfl⟩ := AI.out.2 hl
                  have h1b : decide ((l0.length : Int) < (l0.length : Int)) = false := decide_eq_false (by omega)
                  go_upto_region 16 with (fail)
                  have HY2 := Aside0.mk (show (W.drewN (q0)).heap[p]? = some (.cells #[.int .i64 ((x : Int)), .int .i64 ((x : Int)), .int .i64 ((y : Int)), .int .i64 ((y : Int)), .int .i64 ((z : Int)), .int .i64 ((z : Int)), .int .i64 (1)] 113 (0, 0)) from H2.out)
                  have HOY := Aside0.mk (Kd.R_drewN HO2.out (q0))
                  have HBY := Aside0.mk (pw_below_drewN HB2.out (q0))
                  have PLY := Aside0.mk (show p < (W.drewN (q0)).heap.size from PL.out)
                  clear H2 HO2 HB2 PL e0d f0d e1d f1d e2d f2d e3d f3d e4d f4d e5d f5d e6d f6d
                  generalize W.drewN (q0) = Y at HY2 HOY HBY PLY ⊢
                  have g1 := Aside0.mk (show (((((((Y.setCell ⟨p, 0, none⟩ (.int .i64 ((x : Int)))).setCell ⟨p, 1, none⟩ (.int .i64 ((l0.length : Int)))).setCell ⟨p, 2, none⟩ (.int .i64 ((y : Int)))).setCell ⟨p, 3, none⟩ (.int .i64 ((l1.length : Int)))).setCell ⟨p, 4, none⟩ (.int .i64 ((z : Int)))).setCell ⟨p, 5, none⟩ (.int .i64 ((l2.length : Int)))).setCell ⟨p, 6, none⟩ (.int .i64 (0))).heap[p]? = some (.cells #[.int .i64 ((x : Int)), .int .i64 ((l0.length : Int)), .int .i64 ((y : Int)), .int .i64 ((l1.length : Int)), .int .i64 ((z : Int)), .int .i64 ((l2.length : Int)), .int .i64 (0)] 113 (0, 0)) from (blk_set (blk_set (blk_set (blk_set (blk_set (blk_set (blk_set HY2.out 0 (.int .i64 ((x : Int)))) 1 (.int .i64 ((l0.length : Int)))) 2 (.int .i64 ((y : Int)))) 3 (.int .i64 ((l1.length : Int)))) 4 (.int .i64 ((z : Int)))) 5 (.int .i64 ((l2.length : Int)))) 6 (.int .i64 (0))))
                  have KU := Aside0.mk (KeepBut.set_ (KeepBut.set_ (KeepBut.set_ (KeepBut.set_ (KeepBut.set_ (KeepBut.set_ (KeepBut.set_ (KeepBut.refl Y p none) 0 (.int .i64 ((x : Int)))) 1 (.int .i64 ((l0.length : Int)))) 2 (.int .i64 ((y : Int)))) 3 (.int .i64 ((l1.length : Int)))) 4 (.int .i64 ((z : Int)))) 5 (.int .i64 ((l2.length : Int)))) 6 (.int .i64 (0)))
                  have BU := Aside0.mk (Below.setCell (Below.setCell (Below.setCell (Below.setCell (Below.setCell (Below.setCell (Below.setCell HBY.out (p := ⟨p, 0, none⟩) PB.out (.int .i64 ((x : Int)))) (p := ⟨p, 1, none⟩) PB.out (.int .i64 ((l0.length : Int)))) (p := ⟨p, 2, none⟩) PB.out (.int .i64 ((y : Int)))) (p := ⟨p, 3, none⟩) PB.out (.int .i64 ((l1.length : Int)))) (p := ⟨p, 4, none⟩) PB.out (.int .i64 ((z : Int)))) (p := ⟨p, 5, none⟩) PB.out (.int .i64 ((l2.length : Int)))) (p := ⟨p, 6, none⟩) PB.out (.int .i64 (0)))
                  have PU := Aside0.mk (show p < (((((((Y.setCell ⟨p, 0, none⟩ (.int .i64 ((x : Int)))).setCell ⟨p, 1, none⟩ (.int .i64 ((l0.length : Int)))).setCell ⟨p, 2, none⟩ (.int .i64 ((y : Int)))).setCell ⟨p, 3, none⟩ (.int .i64 ((l1.length : Int)))).setCell ⟨p, 4, none⟩ (.int .i64 ((z : Int)))).setCell ⟨p, 5, none⟩ (.int .i64 ((l2.length : Int)))).setCell ⟨p, 6, none⟩ (.int .i64 (0))).heap.size from by have := PLY.out; simpa using this)
                  have OU := Aside0.mk (Kd.R_keep HOY.out KU.out (fun _ h => h))
                  clear HY2 HOY HBY PLY KU
                  generalize (((((((Y.setCell ⟨p, 0, none⟩ (.int .i64 ((x : Int)))).setCell ⟨p, 1, none⟩ (.int .i64 ((l0.length : Int)))).setCell ⟨p, 2, none⟩ (.int .i64 ((y : Int)))).setCell ⟨p, 3, none⟩ (.int .i64 ((l1.length : Int)))).setCell ⟨p, 4, none⟩ (.int .i64 ((z : Int)))).setCell ⟨p, 5, none⟩ (.int .i64 ((l2.length : Int)))).setCell ⟨p, 6, none⟩ (.int .i64 (0))) = U at g1 BU PU OU ⊢
                  have e0u : U.cell? ⟨p, 0, none⟩ = some (.int .i64 ((x : Int))) := (blk_cell g1.out 0).trans rfl
                  have e1u : U.cell? ⟨p, 1, none⟩ = some (.int .i64 ((l0.length : Int))) := (blk_cell g1.out 1).trans rfl
                  have e2u : U.cell? ⟨p, 2, none⟩ = some (.int .i64 ((y : Int))) := (blk_cell g1.out 2).trans rfl
                  have e3u : U.cell? ⟨p, 3, none⟩ = some (.int .i64 ((l1.length : Int))) := (blk_cell g1.out 3).trans rfl
                  have e4u : U.cell? ⟨p, 4, none⟩ = some (.int .i64 ((z : Int))) := (blk_cell g1.out 4).trans rfl
                  have e5u : U.cell? ⟨p, 5, none⟩ = some (.int .i64 ((l2.length : Int))) := (blk_cell g1.out 5).trans rfl
                  have e6u : U.cell? ⟨p, 6, none⟩ = some (.int .i64 (0)) := (blk_cell g1.out 6).trans rfl
                  have e6a := fun (q1 q2 q3 : Obj) => (blk_cell (blk_alloc (blk_alloc (blk_alloc g1.out q1) q2) q3) 6).trans rfl
                  have f6a := fun (q1 q2 q3 : Obj) => blk_frozen (blk_alloc (blk_alloc (blk_alloc g1.out q1) q2) q3) 6
                  obtain ⟨B0, d0, o0, r0, rc0⟩ := part_at x l0.length A0 c0 l0 w2 ML.out.1.1 ML.out.1.2 hr0.out HC0.out
                  obtain ⟨B1, d1, o1, r1, rc1⟩ := part_at y l1.length A1 c1 l1 w2 ML.out.2.1.1 ML.out.2.1.2 hr1.out HC1.out
                  obtain ⟨B2, d2, o2, r2, rc2⟩ := part_at z l2.length A2 c2 l2 w2 ML.out.2.2.1.1 ML.out.2.2.1.2 hr2.out HC2.out
                  have s1 : (seg l1 y l1.length).length ≤ 1000000 := by rw [seg_length _ _ _ ML.out.2.1.2]; omega
                  have s2 : (seg l2 z l2.length).length ≤ 1000000 := by rw [seg_length _ _ _ ML.out.2.2.1.2]; omega
                  have OC := Aside0.mk (fun (W' : World) (hb : Below w2.heap.size w2 W') => out81_calls B0 d0 (seg l0 x l0.length) B1 d1 (seg l1 y l1.length) B2 d2 (seg l2 z l2.length) W' s1 s2 (Kd.C_below r0 hb) rc0 (Kd.C_below r1 hb) rc1 (Kd.C_below r2 hb) rc2)
                  replace o0 := Aside0.mk o0
                  replace o1 := Aside0.mk o1
                  replace o2 := Aside0.mk o2
                  clear r0 r1 r2 rc0 rc1 rc2 s1 s2
                  go_region_held3 (fun w' => w'.cell? ⟨p, 0, none⟩ = some (.int .i64 ((x : Int))) ∧ w'.cell? ⟨p, 1, none⟩ = some (.int .i64 ((l0.length : Int))) ∧ w'.cell? ⟨p, 2, none⟩ = some (.int .i64 ((y : Int))) ∧ w'.cell? ⟨p, 3, none⟩ = some (.int .i64 ((l1.length : Int))) ∧ w'.cell? ⟨p, 4, none⟩ = some (.int .i64 ((z : Int))) ∧ w'.cell? ⟨p, 5, none⟩ = some (.int .i64 ((l2.length : Int))))
                    (((try dsimp only); (repeat' apply And.intro) <;> (first | assumption | (refine cell_alloc _ ?_; assumption) | (refine cell_alloc _ ?_; refine cell_alloc _ ?_; assumption) | (refine cell_alloc _ ?_; refine cell_alloc _ ?_; refine cell_alloc _ ?_; assumption) | (simp [*, World.cell?_alloc_some, World.cell?_setCell_other]; done) | (go_simp; done) | (refine (World.cell?_setCell_other (by simp)).trans ?_; simp [*, World.cell?_alloc_some]; done) | (trace_state; fail))))
                    (first
                      | (go_at_call_of 82 (Value.slice A0 l0.length c0); refine (o0.out _).mono ?_; rintro e w' ⟨rfl, rfl⟩)
                      | (go_at_call_of 82 (Value.slice A1 l1.length c1); refine (o1.out _).mono ?_; rintro e w' ⟨rfl, rfl⟩)
                      | (go_at_call_of 82 (Value.slice A2 l2.length c2); refine (o2.out _).mono ?_; rintro e w' ⟨rfl, rfl⟩)
                      | (go_at_call 81; refine (OC.out _ (by repeat (first | exact BU.out | apply below_alloc | apply pw_below_drewN | apply below_drew1))).mono ?_; rintro e w' ⟨rfl, hd⟩; obtain ⟨qc, rfl⟩ := hd.out; clear hd))
                  go_upto_region 17 with (fail)
                  have H2 := Aside0.mk (show (((((U.alloc (Obj.cells #[.int .i64 (x : Int), .int .i64 (l0.length : Int)] 111)).alloc (Obj.cells #[.int .i64 (y : Int), .int .i64 (l1.length : Int)] 111)).alloc (Obj.cells #[.int .i64 (z : Int), .int .i64 (l2.length : Int)] 111)).drewN (1 + qc)).setCell ⟨p, 6, none⟩ (.int .i64 (Wv.outc (seg l0 x l0.length) (seg l1 y l1.length) (seg l2 z l2.length)))).heap[p]? = some (.cells #[.int .i64 ((x : Int)), .int .i64 ((l0.length : Int)), .int .i64 ((y : Int)), .int .i64 ((l1.length : Int)), .int .i64 ((z : Int)), .int .i64 ((l2.length : Int)), .int .i64 (Wv.outc (seg l0 x l0.length) (seg l1 y l1.length) (seg l2 z l2.length))] 113 (0, 0)) from blk_set (show ((((U.alloc (Obj.cells #[.int .i64 (x : Int), .int .i64 (l0.length : Int)] 111)).alloc (Obj.cells #[.int .i64 (y : Int), .int .i64 (l1.length : Int)] 111)).alloc (Obj.cells #[.int .i64 (z : Int), .int .i64 (l2.length : Int)] 111)).drewN (1 + qc)).heap[p]? = _ from blk_alloc (blk_alloc (blk_alloc g1.out (Obj.cells #[.int .i64 (x : Int), .int .i64 (l0.length : Int)] 111)) (Obj.cells #[.int .i64 (y : Int), .int .i64 (l1.length : Int)] 111)) (Obj.cells #[.int .i64 (z : Int), .int .i64 (l2.length : Int)] 111)) 6 (.int .i64 (Wv.outc (seg l0 x l0.length) (seg l1 y l1.length) (seg l2 z l2.length))))
                  have HO2 := Aside0.mk (Kd.R_mono (ok' := fun _ => True) (Kd.R_keep (Kd.R_drewN (Kd.R_alloc (Kd.R_alloc (Kd.R_alloc OU.out (Obj.cells #[.int .i64 (x : Int), .int .i64 (l0.length : Int)] 111)) (Obj.cells #[.int .i64 (y : Int), .int .i64 (l1.length : Int)] 111)) (Obj.cells #[.int .i64 (z : Int), .int .i64 (l2.length : Int)] 111)) (1 + qc)) (KeepBut.set_ (KeepBut.refl ((((U.alloc (Obj.cells #[.int .i64 (x : Int), .int .i64 (l0.length : Int)] 111)).alloc (Obj.cells #[.int .i64 (y : Int), .int .i64 (l1.length : Int)] 111)).alloc (Obj.cells #[.int .i64 (z : Int), .int .i64 (l2.length : Int)] 111)).drewN (1 + qc)) p none) 6 (.int .i64 (Wv.outc (seg l0 x l0.length) (seg l1 y l1.length) (seg l2 z l2.length)))) (fun _ h => h)) (fun _ _ => trivial))
                  have HB2 := Aside0.mk (Below.setCell (pw_below_drewN (below_alloc (below_alloc (below_alloc BU.out (Obj.cells #[.int .i64 (x : Int), .int .i64 (l0.length : Int)] 111)) (Obj.cells #[.int .i64 (y : Int), .int .i64 (l1.length : Int)] 111)) (Obj.cells #[.int .i64 (z : Int), .int .i64 (l2.length : Int)] 111)) (1 + qc)) (p := ⟨p, 6, none⟩) PB.out (.int .i64 (Wv.outc (seg l0 x l0.length) (seg l1 y l1.length) (seg l2 z l2.length))))
                  have PL := Aside0.mk (show p < (((((U.alloc (Obj.cells #[.int .i64 (x : Int), .int .i64 (l0.length : Int)] 111)).alloc (Obj.cells #[.int .i64 (y : Int), .int .i64 (l1.length : Int)] 111)).alloc (Obj.cells #[.int .i64 (z : Int), .int .i64 (l2.length : Int)] 111)).drewN (1 + qc)).setCell ⟨p, 6, none⟩ (.int .i64 (Wv.outc (seg l0 x l0.length) (seg l1 y l1.length) (seg l2 z l2.length)))).heap.size from by have := PU.out; simp; omega)
                  clear OC o0 o1 o2 g1 BU PU OU e6a f6a e0u e1u e2u e3u e4u e5u e6u
                  generalize (((((U.alloc (Obj.cells #[.int .i64 (x : Int), .int .i64 (l0.length : Int)] 111)).alloc (Obj.cells #[.int .i64 (y : Int), .int .i64 (l1.length : Int)] 111)).alloc (Obj.cells #[.int .i64 (z : Int), .int .i64 (l2.length : Int)] 111)).drewN (1 + qc)).setCell ⟨p, 6, none⟩ (.int .i64 (Wv.outc (seg l0 x l0.length) (seg l1 y l1.length) (seg l2 z l2.length)))) = W at H2 HO2 HB2 PL ⊢
                  have e0c : W.cell? ⟨p, 0, none⟩ = some (.int .i64 ((x : Int))) := (blk_cell H2.out 0).trans rfl
                  have e1c : W.cell? ⟨p, 1, none⟩ = some (.int .i64 ((l0.length : Int))) := (blk_cell H2.out 1).trans rfl
                  have e2c : W.cell? ⟨p, 2, none⟩ = some (.int .i64 ((y : Int))) := (blk_cell H2.out 2).trans rfl
                  have e3c : W.cell? ⟨p, 3, none⟩ = some (.int .i64 ((l1.length : Int))) := (blk_cell H2.out 3).trans rfl
                  have e4c : W.cell? ⟨p, 4, none⟩ = some (.int .i64 ((z : Int))) := (blk_cell H2.out 4).trans rfl
                  have e5c : W.cell? ⟨p, 5, none⟩ = some (.int .i64 ((l2.length : Int))) := (blk_cell H2.out 5).trans rfl
                  have e6c : W.cell? ⟨p, 6, none⟩ = some (.int .i64 (Wv.outc (seg l0 x l0.length) (seg l1 y l1.length) (seg l2 z l2.length))) := (blk_cell H2.out 6).trans rfl
                  go_wp2_with (first | ((with_reducible refine gate_builtin (b := .append) (xs := #[.tmp 150, .tmp 152]) rfl ?_); at_builtin; refine Kd.R_append k113 (w0 := w2) w2.heap.size rfl (.tmp 150) (.tmp 152) 64 113 (.agg #[.int .i64 0, .int .i64 0, .int .i64 0, .int .i64 0, .int .i64 0, .int .i64 0, .int .i64 0]) 56 rfl Try.underlying64 info113 rfl (by decide) (by omega) V9 out (⟨⟨(x : Int), (l0.length : Int)⟩, ⟨(y : Int), (l1.length : Int)⟩, ⟨(z : Int), (l2.length : Int)⟩, Wv.outc (seg l0 x l0.length) (seg l1 y l1.length) (seg l2 z l2.length)⟩ : S113) [.int .i64 ((x : Int)), .int .i64 ((l0.length : Int)), .int .i64 ((y : Int)), .int .i64 ((l1.length : Int)), .int .i64 ((z : Int)), .int .i64 ((l2.length : Int)), .int .i64 (Wv.outc (seg l0 x l0.length) (seg l1 y l1.length) (seg l2 z l2.length))] (fun _ => True) (fun _ => False) rfl rfl ?aP (fun _ hk => hk.elim) ?aF ?aO ?aB ?aS ?aL ?_; (case aP => exact k113_mkM _ _ _ (⟨⟨(x : Int), (l0.length : Int)⟩, ⟨(y : Int), (l1.length : Int)⟩, ⟨(z : Int), (l2.length : Int)⟩, Wv.outc (seg l0 x l0.length) (seg l1 y l1.length) (seg l2 z l2.length)⟩ : S113)); (case aB => exact HB2.out); (case aF => exact (fun _ _ => trivial)); (case aO => exact HO2.out); (case aS => exact HB2.out.size); (case aL => have := HL.out; omega); intro v103 w6 ho hb hg hat; have n0_ := Aside0.mk hb; have n1_ := Aside0.mk ho; have hV6 := (hg.block p PL.out HNE.out).trans H2.out; clear e0c e1c e2c e3c e4c e5c e6c HB2 HO2 ho hb hg hat; have e1c := (blk_cell hV6 1).trans rfl; have e3c := (blk_cell hV6 3).trans rfl; have e5c := (blk_cell hV6 5).trans rfl; clear hV6))
                  go_quiet (fail)
                  try go_wp2
                  go_roundw
                  case rel => exact ⟨_, l0.length, l1.length, l2.length, _, rfl, rfl, rfl, rfl, HT2, ⟨by first | exact n1_.out | exact Kd.R_drewN n1_.out _ | exact Kd.R_drew n1_.out⟩, ⟨by first | exact n0_.out | exact pw_below_drewN n0_.out _ | exact below_drew1 n0_.out⟩⟩
                  case measure => simp [intOf]; have := ML.out; omega
  · cases h
end Go.Proofs.Ytlkgdfeeepiidaa.All
namespace Go.Proofs.Ytlkgdfeeepiidaa.Wv
open Go.RowKit Go.Proofs.Ytlkgdfeeepiidaa Go.Proofs.Ytlkgdfeeepiidaa.All Go.Proofs.Ytlkgdfeeepiidaa.Lcs Go.Proofs.YtlkgdfeeepiidaaW.PrintWords Go.Proofs.YtlkgdfeeepiidaaW.PrintLast Go.Proofs.YtlkgdfeeepiidaaW.PrintMore
set_option linter.unusedVariables false
set_option linter.unusedSimpArgs false
theorem rd_C113 (L : List Ch) (i : Nat) (h : i < L.length) : rd_T113 (L.map C113) (i : Int) = C113 L[i] := by unfold rd_T113; simp [h]
theorem refClean_ev (L : List Ch) (hL : L.length ≤ 1000000) : Ev (fun k => emendationref05_Clean.f k (L.map C113)) (! L.any (fun c => c.c == 5)) := by
  have h0 : ∀ (d i : Nat), i + d = L.length → Ev (fun k => emendationref05_Clean.l0 k (L.map C113) (L.length : Int) (i : Int)) (! (L.drop i).any (fun c => c.c == 5)) := by
    intro d
    induction d with
    | zero =>
      intro i hi
      refine ⟨1, fun k hk => ?_⟩
      obtain ⟨q, rfl⟩ : ∃ q, k = q + 1 := ⟨k - 1, (Nat.sub_add_cancel hk).symm⟩
      show emendationref05_Clean.l0 (q + 1) _ _ _ = _
      have z : ¬ (i : Int) < (L.length : Int) := by omega
      rw [emendationref05_Clean.l0, if_neg z, List.drop_eq_nil_of_le (by omega)]
      rfl
    | succ d ih =>
      intro i hi
      have z0 : i < L.length := by omega
      have z1 : (i : Int) < (L.length : Int) := by omega
      have z2 : (0 : Int) ≤ (i : Int) := by omega
      have z3 : (i : Int) < ((L.map C113).length : Int) := by rw [List.length_map]; exact z1
      have w := wone i (by omega)
      have g := rd_C113 L i z0
      have gf : (C113 L[i]).f3 = L[i].c := rfl
      rw [List.drop_eq_getElem_cons z0, List.any_cons]
      by_cases h5 : L[i].c = 5
      · refine ⟨1, fun k hk => ?_⟩
        obtain ⟨q, rfl⟩ : ∃ q, k = q + 1 := ⟨k - 1, (Nat.sub_add_cancel hk).symm⟩
        show emendationref05_Clean.l0 (q + 1) _ _ _ = _
        rw [emendationref05_Clean.l0, if_pos z1, if_pos z2, if_pos z3, g, gf, if_pos h5, beq_iff_eq.2 h5, Bool.true_or]
        rfl
      · rw [beq_eq_false_iff_ne.2 h5, Bool.false_or]
        refine Ev.step (fun k => ?_) (ih (i + 1) (by clear w g gf; omega))
        rw [emendationref05_Clean.l0, if_pos z1, if_pos z2, if_pos z3, g, gf, if_neg h5, w]
  have h := h0 L.length 0 (Nat.zero_add _)
  rw [List.drop_zero] at h
  refine Ev.congr (fun k => ?_) h
  rw [emendationref05_Clean.f, List.length_map]
  rfl
theorem chs_oc (b o t : List Int) (K : List Tri) : ∀ (x y z n : Nat), ∀ c ∈ chs b o t x y z n K, 1 ≤ c.c ∧ c.c ≤ 5 := by
  have hs : ∀ x y z n, ∀ c ∈ same x y z n, 1 ≤ c.c ∧ c.c ≤ 5 := by
    intro x y z n c h
    unfold same at h
    split at h
    · cases h
    · rw [List.mem_singleton] at h; subst h; exact ⟨Int.le_refl _, by show (1 : Int) ≤ 5; omega⟩
  have ho : ∀ u v q : List Int, 1 ≤ outc u v q ∧ outc u v q ≤ 5 := by
    intro u v q
    unfold outc
    split
    · omega
    · split
      · omega
      · split <;> omega
  induction K with
  | nil =>
    intro x y z n c h
    rw [chs] at h
    rcases List.mem_append.1 h with h | h
    · exact hs _ _ _ _ c h
    · split at h
      · rw [List.mem_singleton] at h; subst h; exact ho _ _ _
      · cases h
  | cons p K ih =>
    obtain ⟨i, j, k⟩ := p
    intro x y z n c h
    rw [chs] at h
    split at h
    · exact ih _ _ _ _ c h
    · rcases List.mem_append.1 h with h | h
      · exact hs _ _ _ _ c h
      · rcases List.mem_cons.1 h with rfl | h
        · exact ho _ _ _
        · exact ih _ _ _ _ c h
theorem any5 (b o t : List Int) : (! (chunks b o t).any (fun c => c.c == 5)) = (mres b o t).2 := by
  have hall := cont_all b o t
  unfold mres merge
  cases hm : mrg b o t 0 0 0 (tri b o t) with
  | none =>
    rw [hm] at hall
    obtain ⟨c, hc, h5⟩ := (cont_none o t _).1 hall
    have : (chunks b o t).any (fun c => c.c == 5) = true := by rw [List.any_eq_true]; exact ⟨c, hc, by simpa using h5⟩
    rw [this]; rfl
  | some r =>
    rw [hm] at hall
    have : (chunks b o t).any (fun c => c.c == 5) = false := by
      rw [Bool.eq_false_iff, Ne, List.any_eq_true]
      rintro ⟨c, hc, h5⟩
      have : cont o t (chs b o t 0 0 0 0 (tri b o t)) = none := (cont_none o t _).2 ⟨c, hc, by simpa using h5⟩
      rw [this] at hall
      cases hall
    rw [this]; rfl
theorem clean_calls (A : Option Addr) (c : Nat) (b o t : List Int) (w : World) (hb : b.length ≤ 100000) (hr : Kd.C k113 w A (chunks b o t).length ((chunks b o t).map C113)) (hc : (chunks b o t).length ≤ c) :
    Calls Try.prog 58 #[.slice A (chunks b o t).length c] w fun e w' => e = .returned (.bool (mres b o t).2) ∧ Drawn0 w w' := by
  obtain ⟨k, hk⟩ := (refClean_ev (chunks b o t) (by have := chunks_length b o t; omega)).rounds
  rw [any5] at hk
  have e : ((chunks b o t).map C113).length = (chunks b o t).length := List.length_map _
  rw [← e] at hr hc ⊢
  exact emendationref05_Clean.calls k A c _ _ w hr hc hk
/-- What is put together, and what is still to come. -/
structure Got (o t : List Int) (L : List Ch) (R : List Int) (i : Nat) (out : List Int) : Prop where
  all : ∃ q, cont o t (L.drop i) = some q ∧ out ++ q = R
theorem Got.start (b o t : List Int) (h : (mres b o t).2 = true) : Got o t (chunks b o t) (mres b o t).1 0 [] := by
  have hall := cont_all b o t
  unfold mres merge at h ⊢
  cases hm : mrg b o t 0 0 0 (tri b o t) with
  | none => rw [hm] at h; cases h
  | some r => rw [hm] at hall; exact ⟨r, hall, rfl⟩
theorem Got.next {o t : List Int} {L : List Ch} {R : List Int} {i : Nat} {out : List Int} (h : Got o t L R i out) (hi : i < L.length) : L[i].c ≠ 5 ∧ Got o t L R (i + 1) (out ++ (if L[i].c = 2 ∨ L[i].c = 4 then seg o L[i].y0 L[i].y1 else seg t L[i].z0 L[i].z1)) := by
  obtain ⟨q, h1, h2⟩ := h.all
  rw [List.drop_eq_getElem_cons hi, cont] at h1
  split at h1
  · cases h1
  · rename_i h5
    obtain ⟨q', h3, rfl⟩ := Option.map_eq_some_iff.1 h1
    exact ⟨h5, q', h3, by rw [← h2, List.append_assoc]⟩
theorem Got.done {o t : List Int} {L : List Ch} {R : List Int} {i : Nat} {out : List Int} (h : Got o t L R i out) (hi : ¬ i < L.length) : out = R := by
  obtain ⟨q, h1, h2⟩ := h.all
  rw [List.drop_eq_nil_of_le (by omega), cont] at h1
  cases h1
  rw [List.append_nil] at h2
  exact h2
theorem Got.le {o t : List Int} {L : List Ch} {R : List Int} {i : Nat} {out : List Int} (h : Got o t L R i out) : out.length ≤ R.length := by
  obtain ⟨q, _, h2⟩ := h.all
  rw [← h2, List.length_append]; omega
end Go.Proofs.Ytlkgdfeeepiidaa.Wv
namespace Go.Proofs.Ytlkgdfeeepiidaa.All
open Go.RowKit Go.Proofs.Ytlkgdfeeepiidaa Go.Proofs.Ytlkgdfeeepiidaa.XWv Go.Proofs.Ytlkgdfeeepiidaa.Wv Go.Proofs.Ytlkgdfeeepiidaa.Lcs Go.Proofs.YtlkgdfeeepiidaaW.PrintWords Go.Proofs.YtlkgdfeeepiidaaW.PrintLast Go.Proofs.YtlkgdfeeepiidaaW.PrintMore
set_option linter.unusedVariables false
set_option linter.unusedSimpArgs false
def emendationref05_Merge.f (b o t : List Int) : Option (List Int × Bool) := if b.length ≤ 100000 ∧ o.length ≤ 100000 ∧ t.length ≤ 100000 then some (mres b o t) else none
set_option maxHeartbeats 4000000 in
set_option maxRecDepth 100000 in
theorem emendationref05_Merge.calls (A0 : Option Addr) (c0 : Nat) (l0 : List Int) (A1 : Option Addr) (c1 : Nat) (l1 : List Int) (A2 : Option Addr) (c2 : Nat) (l2 : List Int) (r1 : List Int) (r2 : Bool) (w : World)
    (hr0 : Kd.C (Kd.int .i64) w A0 l0.length l0) (hc0 : l0.length ≤ c0) (hr1 : Kd.C (Kd.int .i64) w A1 l1.length l1) (hc1 : l1.length ≤ c1) (hr2 : Kd.C (Kd.int .i64) w A2 l2.length l2) (hc2 : l2.length ≤ c2) (h : emendationref05_Merge.f l0 l1 l2 = some (r1, r2)) :
    Calls Try.prog 54 #[.slice A0 l0.length c0, .slice A1 l1.length c1, .slice A2 l2.length c2] w fun e w' => ∃ v0_ : Value, e = .returned (.tuple #[v0_, .bool r2]) ∧ Kd.R (Kd.int .i64) 3 w' w.heap.size (fun _ => True) v0_ r1 ∧ Below w.heap.size w w' := by
  unfold emendationref05_Merge.f at h
  split at h
  · rename_i hlen
    obtain ⟨n0, n1, n2⟩ := hlen
    have hR := Option.some.inj h
    have hRR := hR
    have HR0 := Aside0.mk hr0
    have HR1 := Aside0.mk hr1
    have HR2 := Aside0.mk hr2
    have HC0 := Aside0.mk hc0
    have HC1 := Aside0.mk hc1
    have HC2 := Aside0.mk hc2
    have e1 := Aside0.mk (show emendationref05_Chunks.f l0 l1 l2 = some ((chunks l0 l1 l2).map C113) by unfold emendationref05_Chunks.f; rw [if_pos ⟨n0, n1, n2⟩])
    have HCN := Aside0.mk (fun (A : Option Addr) (c : Nat) (W : World) (hr : Kd.C k113 W A (chunks l0 l1 l2).length ((chunks l0 l1 l2).map C113)) (hc : (chunks l0 l1 l2).length ≤ c) => clean_calls A c l0 l1 l2 W n0 hr hc)
    have hs := fun h => Got.start l0 l1 l2 h
    rw [hR] at hs HCN
    have HS := Aside0.mk hs
    have hrl : r1.length ≤ 300000 := by
      have e : (mres l0 l1 l2).1 = r1 := by rw [hR]
      rw [← e]
      unfold mres
      cases hm : merge l0 l1 l2 with
      | none => simp
      | some q =>
        have := mrg_length l0 l1 l2 _ 0 0 0 q (chain_tri l0 l1 l2) hm
        show q.length ≤ 300000
        omega
    have hOK := Aside0.mk (chs_ok l0 l1 l2 (tri l0 l1 l2) 0 0 0 0 (chain_tri l0 l1 l2))
    have hOC := Aside0.mk (chs_oc l0 l1 l2 (tri l0 l1 l2) 0 0 0 0)
    have hLL := chunks_length l0 l1 l2
    clear h hR hs hr0 hr1 hr2 hc0 hc1 hc2
    change Aside0 (∀ c ∈ chunks l0 l1 l2, c.ok l1 l2) at hOK
    change Aside0 (∀ c ∈ chunks l0 l1 l2, 1 ≤ c.c ∧ c.c ≤ 5) at hOC
    generalize chunks l0 l1 l2 = L at *
    dsimp only at HCN HS
    go_enter Try.func54, Try.ntmps54
    cases r2 with
    | false =>
      have hE : (mres l0 l1 l2).2 = false := by rw [hRR]
      have hN : r1 = [] := by
        have e : (mres l0 l1 l2).1 = r1 := by rw [hRR]
        rw [← e]
        unfold mres at hE ⊢
        cases hm : merge l0 l1 l2 with
        | none => rfl
        | some q => rw [hm] at hE; cases hE
      subst hN
      clear hRR HS hE
      go_wp2_with (first | (go_at_call 52; with_reducible refine (emendationref05_Chunks.calls A0 _ l0 A1 _ l1 A2 _ l2 (L.map C113) _ HR0.out HC0.out HR1.out HC1.out HR2.out HC2.out e1.out).mono ?_; rintro e w1 ⟨v1, rfl, ho1, hb1⟩; obtain ⟨Ab, cb, eb⟩ := Kd.R_slice ho1; subst eb; have HLr := Aside0.mk (show Kd.C k113 w1 Ab L.length (L.map C113) by have h := (Kd.R_reads' ho1).2.2; rw [List.length_map] at h; exact h); have HLc := Aside0.mk (show L.length ≤ cb by have h := (Kd.R_reads' ho1).2.1; rw [List.length_map] at h; exact h); have HB1 := Aside0.mk hb1; clear ho1 hb1) | (go_at_call 58; (with_reducible refine (HCN.out Ab cb _ HLr.out HLc.out).mono ?_); rintro e w2 ⟨rfl, hd⟩; obtain ⟨qd, rfl⟩ := hd.out; clear hd))
      go_ret2
      exact ⟨_, rfl, Kd.R_nil _ _ _ _ _, by first | exact HB1.out | exact pw_below_drewN HB1.out _⟩
    | true =>
      have HG := Aside0.mk (HS.out rfl)
      clear HS hRR
      go_upto_region 5 with (first | (go_at_call 52; with_reducible refine (emendationref05_Chunks.calls A0 _ l0 A1 _ l1 A2 _ l2 (L.map C113) _ HR0.out HC0.out HR1.out HC1.out HR2.out HC2.out e1.out).mono ?_; rintro e w1 ⟨v1, rfl, ho1, hb1⟩; obtain ⟨Ab, cb, eb⟩ := Kd.R_slice ho1; subst eb; have HLr := Aside0.mk (show Kd.C k113 w1 Ab L.length (L.map C113) by have h := (Kd.R_reads' ho1).2.2; rw [List.length_map] at h; exact h); have HLc := Aside0.mk (show L.length ≤ cb by have h := (Kd.R_reads' ho1).2.1; rw [List.length_map] at h; exact h); have HB1 := Aside0.mk hb1; clear ho1 hb1) | (go_at_call 58; (with_reducible refine (HCN.out Ab cb _ HLr.out HLc.out).mono ?_); rintro e w2 ⟨rfl, hd⟩; obtain ⟨qd, rfl⟩ := hd.out; clear hd))
      go_wp2
      go_loopw [9, 20] (fun v9 v20 wr => ∃ (i : Nat) (out : List Int) (V9 : Value), v9 = V9 ∧ v20 = .int .i64 (i : Int) ∧ Aside0 (i ≤ L.length) ∧ Aside0 (Got l1 l2 L r1 i out) ∧ Aside0 (Kd.R (Kd.int .i64) 3 wr w1.heap.size (fun _ => True) V9 out) ∧ Aside0 (Below w1.heap.size w1 wr)) (fun _ v _ => ((L.length : Int) - intOf v).toNat)
      case atStart => exact ⟨0, [], _, rfl, rfl, ⟨Nat.zero_le _⟩, HG, ⟨Kd.R_nil _ _ _ _ _⟩, ⟨by first | exact Below.refl _ _ | exact pw_below_drewN (Below.refl _ _) _⟩⟩
      case round =>
        clear HG
        obtain ⟨i, out, V9, hV9, rfl, HI, HG, HO, HB⟩ := hrel
        replace hV9 := hV9.symm
        subst hV9
        by_cases h : i < L.length
        · obtain ⟨h5, hg2⟩ := HG.out.next h
          have OK := Aside0.mk (hOK.out L[i] (List.getElem_mem h))
          have oc := hOC.out L[i] (List.getElem_mem h)
          have hX := rd_C113 L i h
          obtain ⟨ad, eA, h0, h1, h2, h3, h4, h5', h6⟩ := at_T113 HLr.out (i : Int) (by omega) (by omega)
          rw [hX] at h0 h1 h2 h3 h4 h5' h6
          cases eA
          have q2 := pw_cell_below HB.out h2
          have q3 := pw_cell_below HB.out h3
          have q4 := pw_cell_below HB.out h4
          have q5 := pw_cell_below HB.out h5'
          have q6 := pw_cell_below HB.out h6
          clear h0 h1 h2 h3 h4 h5' h6 hX
          rw [Int.toNat_natCast] at q2 q3 q4 q5 q6
          generalize L[i] = ch at *
          simp only [C113] at q2 q3 q4 q5 q6
          have PL := Aside0.mk (show (out ++ (if ch.c = 2 ∨ ch.c = 4 then seg l1 ch.y0 ch.y1 else seg l2 ch.z0 ch.z1)).length ≤ 300000 by have := hg2.le; omega)
          have hb : decide ((i : Int) < (L.length : Int)) = true := decide_eq_true (by omega)
          have p2 : ((i : Int) < (L.length : Int)) = True := eq_true (by omega)
          have p3 : (i < L.length) = True := eq_true h
          by_cases d1 : ch.c = 1
          · rw [if_neg (by omega)] at hg2 PL
            rw [List.length_append] at PL
            have HG2 := Aside0.mk hg2
            have d1b : (ch.c == 1) = true := beq_iff_eq.2 d1
            clear hg2 oc h5 d1
            obtain ⟨B, d, of_, hrB, hdB⟩ := part_at ch.z0 ch.z1 A2 c2 l2 w1 OK.out.2.2.1 OK.out.2.2.2 (Kd.C_below HR2.out HB1.out) HC2.out
            have OF := Aside0.mk of_
            have HRB := Aside0.mk hrB
            clear of_ hrB hdB
            go_wp2_with (first | (go_at_call 82; refine (OF.out _).mono ?_; rintro e w6 ⟨rfl, rfl⟩) | ((with_reducible refine gate_builtin (b := .append) (xs := #[.tmp 37, .tmp 44]) rfl ?_); at_builtin; refine Kd.R_append_row (Value.int .i64) (0 : Int) (h1 := fun _ => rfl) (w0 := w1) w1.heap.size rfl (.tmp 37) (.tmp 44) 29 3 (.int .i64 0) 8 rfl Try.underlying29 info3 rfl (by decide) V9 out (seg l2 ch.z0 ch.z1) B _ d (fun _ => True) rfl rfl (fun _ _ => trivial) (Kd.R_alloc HO.out _) (Kd.C_alloc (Kd.C_below HRB.out HB.out) _) (below_alloc HB.out _) (below_alloc HB.out _).size (by have := PL.out; omega) ?_; intro v103 w7 ho hb8 hg hat; have n0_ := Aside0.mk hb8; have n1_ := Aside0.mk ho; clear HO HB ho hb8 hg hat))
            go_roundw
            case rel => exact ⟨i + 1, _, _, rfl, by go_num, ⟨by omega⟩, HG2, n1_, n0_⟩
            case measure => simp [intOf]; omega
          · by_cases d3 : ch.c = 3
            · rw [if_neg (by omega)] at hg2 PL
              rw [List.length_append] at PL
              have HG2 := Aside0.mk hg2
              have d1b : (ch.c == 1) = false := beq_eq_false_iff_ne.2 d1
              have d3b : (ch.c == 3) = true := beq_iff_eq.2 d3
              clear hg2 oc h5 d1 d3
              obtain ⟨B, d, of_, hrB, hdB⟩ := part_at ch.z0 ch.z1 A2 c2 l2 w1 OK.out.2.2.1 OK.out.2.2.2 (Kd.C_below HR2.out HB1.out) HC2.out
              have OF := Aside0.mk of_
              have HRB := Aside0.mk hrB
              clear of_ hrB hdB
              go_wp2_with (first | (go_at_call 82; refine (OF.out _).mono ?_; rintro e w6 ⟨rfl, rfl⟩) | ((with_reducible refine gate_builtin (b := .append) (xs := #[.tmp 37, .tmp 44]) rfl ?_); at_builtin; refine Kd.R_append_row (Value.int .i64) (0 : Int) (h1 := fun _ => rfl) (w0 := w1) w1.heap.size rfl (.tmp 37) (.tmp 44) 29 3 (.int .i64 0) 8 rfl Try.underlying29 info3 rfl (by decide) V9 out (seg l2 ch.z0 ch.z1) B _ d (fun _ => True) rfl rfl (fun _ _ => trivial) (Kd.R_alloc HO.out _) (Kd.C_alloc (Kd.C_below HRB.out HB.out) _) (below_alloc HB.out _) (below_alloc HB.out _).size (by have := PL.out; omega) ?_; intro v103 w7 ho hb8 hg hat; have n0_ := Aside0.mk hb8; have n1_ := Aside0.mk ho; clear HO HB ho hb8 hg hat))
              go_roundw
              case rel => exact ⟨i + 1, _, _, rfl, by go_num, ⟨by omega⟩, HG2, n1_, n0_⟩
              case measure => simp [intOf]; omega
            · rw [if_pos (by omega)] at hg2 PL
              rw [List.length_append] at PL
              have HG2 := Aside0.mk hg2
              have d1b : (ch.c == 1) = false := beq_eq_false_iff_ne.2 d1
              have d3b : (ch.c == 3) = false := beq_eq_false_iff_ne.2 d3
              clear hg2 oc h5 d1 d3
              obtain ⟨B, d, of_, hrB, hdB⟩ := part_at ch.y0 ch.y1 A1 c1 l1 w1 OK.out.1 OK.out.2.1 (Kd.C_below HR1.out HB1.out) HC1.out
              have OF := Aside0.mk of_
              have HRB := Aside0.mk hrB
              clear of_ hrB hdB
              go_wp2_with (first | (go_at_call 82; refine (OF.out _).mono ?_; rintro e w6 ⟨rfl, rfl⟩) | ((with_reducible refine gate_builtin (b := .append) (xs := #[.tmp 46, .tmp 53]) rfl ?_); at_builtin; refine Kd.R_append_row (Value.int .i64) (0 : Int) (h1 := fun _ => rfl) (w0 := w1) w1.heap.size rfl (.tmp 46) (.tmp 53) 29 3 (.int .i64 0) 8 rfl Try.underlying29 info3 rfl (by decide) V9 out (seg l1 ch.y0 ch.y1) B _ d (fun _ => True) rfl rfl (fun _ _ => trivial) (Kd.R_alloc HO.out _) (Kd.C_alloc (Kd.C_below HRB.out HB.out) _) (below_alloc HB.out _) (below_alloc HB.out _).size (by have := PL.out; omega) ?_; intro v103 w7 ho hb8 hg hat; have n0_ := Aside0.mk hb8; have n1_ := Aside0.mk ho; clear HO HB ho hb8 hg hat))
              go_roundw
              case rel => exact ⟨i + 1, _, _, rfl, by go_num, ⟨by omega⟩, HG2, n1_, n0_⟩
              case measure => simp [intOf]; omega
        · have hb : decide ((i : Int) < (L.length : Int)) = false := decide_eq_false (by omega)
          have hd := HG.out.done h
          subst hd
          have HO' := HO.out
          have HB' := HB.out
          clear HI HG HO HB
          go_wp2
          go_ret2
          exact ⟨_, rfl, Kd.R_lower HO' HB1.out.size, below_step HB1.out HB'⟩
  · cases h
end Go.Proofs.Ytlkgdfeeepiidaa.All
