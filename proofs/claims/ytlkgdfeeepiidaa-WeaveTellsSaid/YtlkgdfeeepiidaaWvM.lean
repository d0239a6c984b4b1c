/- weave's functions, as printed, tell what the plain words say. · weave.Merge, as printed, tells what the plain words say; the laws' small functions. -/
import Derived.Test.YtlkgdfeeepiidaaWvMath
import Derived.Test.YtlkgdfeeepiidaaLcsG
import Derived.Test.YtlkgdfeeepiidaaXWv
import Derived.Test.YtlkgdfeeepiidaaF49
import Derived.Test.YtlkgdfeeepiidaaF59
import Derived.Test.YtlkgdfeeepiidaaF50
namespace Go.Proofs.Ytlkgdfeeepiidaa.Wv
open Go.RowKit Go.Proofs.Ytlkgdfeeepiidaa.All Go.Proofs.Ytlkgdfeeepiidaa.Lcs Go.Proofs.Ytlkgdfeeepiidaa.XLcs Go.Proofs.YtlkgdfeeepiidaaW.PrintWords Go.Proofs.YtlkgdfeeepiidaaW.PrintLast
theorem wnat {n : Nat} (h : n < 1000000000000) : wrap64 (n : Int) = (n : Int) := wrap_in (by omega) (by omega)
theorem wsum (x n : Nat) (h : x + n < 1000000000000) : wrap64 ((x : Int) + (n : Int)) = ((x + n : Nat) : Int) := by rw [wrap_in (by omega) (by omega)]; omega
theorem wone (n : Nat) (h : n < 1000000000000) : wrap64 ((n : Int) + 1) = ((n + 1 : Nat) : Int) := by rw [wrap_in (by omega) (by omega)]; omega

/-- Where a side keeps each place, as numbers. -/
def kvs (ps : List (Nat × Nat)) (n : Nat) : List Int := (List.range n).map (kv ps)
theorem kvs_length (ps : List (Nat × Nat)) (n : Nat) : (kvs ps n).length = n := by simp [kvs]
theorem kvs_get (ps : List (Nat × Nat)) (n i : Nat) (h : i < n) : rd (kvs ps n) (i : Int) = kv ps i := by
  rw [rd_nat _ _ (by rw [kvs_length]; exact h)]; simp [kvs]
theorem kvs_set (ps : List (Nat × Nat)) (p : Nat × Nat) (n : Nat) (h : ∀ q ∈ ps, q.1 < p.1) : (kvs ps n).set p.1 (p.2 : Int) = kvs (ps ++ [p]) n := by
  apply List.ext_getElem
  · simp [kvs]
  · intro i h1 h2
    simp [kvs] at h1 h2
    simp only [List.getElem_set, kvs, List.getElem_map, List.getElem_range]
    by_cases hi : p.1 = i
    · subst hi
      have hn : ps.find? (fun q => q.1 == p.1) = none := by
        rw [List.find?_eq_none]
        intro q hq
        have := h q hq
        simp; omega
      simp [kv, kp, List.find?_append, hn]
    · rw [if_neg hi]
      unfold kv kp
      rw [List.find?_append]
      simp [hi]
def neg1 (i n : Nat) : List Int := (List.range n).map (fun j => if j < i then -1 else 0)
theorem neg1_length (i n : Nat) : (neg1 i n).length = n := by simp [neg1]
theorem neg1_zero (n : Nat) : List.replicate n 0 = neg1 0 n := by
  apply List.ext_getElem
  · simp [neg1]
  · intro j h1 h2; simp [neg1]
theorem neg1_set (i n : Nat) : (neg1 i n).set i (-1) = neg1 (i + 1) n := by
  apply List.ext_getElem
  · simp [neg1]
  · intro j h1 h2
    simp only [List.getElem_set, neg1, List.getElem_map, List.getElem_range]
    by_cases h : i = j
    · rw [if_pos h, if_pos (by omega)]
    · rw [if_neg h]
      by_cases h' : j < i
      · rw [if_pos h', if_pos (by omega)]
      · rw [if_neg h', if_neg (by omega)]
theorem neg1_all (n : Nat) : neg1 n n = kvs [] n := by
  apply List.ext_getElem
  · simp [neg1, kvs]
  · intro j h1 h2
    simp [neg1] at h1
    simp [neg1, kvs, kv, kp, h1]
theorem kept_l1 (ps : List (Nat × Nat)) (n : Nat) (hp : ps.Pairwise (fun p q => p.1 < q.1 ∧ p.2 < q.2)) (hb : ∀ p ∈ ps, p.1 < n) (hl : ps.length ≤ 100000) (d : Nat) : ∀ (q : Nat), q + d = ps.length →
    Ev (fun k => weave_kept.l1 k (kvs (ps.take q) n) (ps.map P55) (ps.length : Int) (q : Int)) (kvs ps n) := by
  induction d with
  | zero =>
    intro q hq
    refine ⟨1, fun k hk => ?_⟩
    obtain ⟨m, rfl⟩ : ∃ m, k = m + 1 := ⟨k - 1, by omega⟩
    show weave_kept.l1 (m + 1) _ _ _ _ = _
    have z : ¬ (q : Int) < (ps.length : Int) := by omega
    rw [weave_kept.l1, if_neg z, List.take_of_length_le (by omega)]
  | succ d ih =>
    intro q hq
    have hql : q < ps.length := by omega
    have nx := ih (q + 1) (by omega)
    have z1 : (q : Int) < (ps.length : Int) := by omega
    have z2 : (0 : Int) ≤ (q : Int) := by omega
    have z3 : (q : Int) < ((ps.map P55).length : Int) := by rw [List.length_map]; exact z1
    have z4 : (0 : Int) ≤ (ps[q].1 : Int) := by omega
    have hb' := hb ps[q] (List.getElem_mem hql)
    have z5 : (ps[q].1 : Int) < ((kvs (ps.take q) n).length : Int) := by rw [kvs_length]; omega
    have hs := kvs_set (ps.take q) ps[q] n (fun r hr => by
      obtain ⟨j, hj, rfl⟩ := List.getElem_of_mem hr
      rw [List.length_take] at hj
      rw [List.getElem_take]
      exact (List.pairwise_iff_getElem.1 hp j q (by omega) hql (by omega)).1)
    rw [← List.take_succ_eq_append_getElem hql] at hs
    refine Ev.step (fun k => ?_) nx
    rw [weave_kept.l1, if_pos z1, if_pos z2, if_pos z3, rd_P ps q hql, P55_f0, P55_f1, if_pos z4, if_pos z5, Int.toNat_natCast, hs, wone q (by omega)]
theorem kept_ev (b o : List Int) (hb : b.length ≤ 100000) (ho : o.length ≤ 100000) : Ev (fun k => weave_kept.f k b o) (kvs (prs b o 0 0) b.length) := by
  have hl0 : ∀ (d i : Nat), i + d = b.length → Ev (fun k => weave_kept.l0 k b o (neg1 i b.length) (b.length : Int) (i : Int)) (kvs (prs b o 0 0) b.length) := by
    intro d
    induction d with
    | zero =>
      intro i hi
      have hi : i = b.length := by omega
      subst hi
      have hlen := prs_length0 b o
      have hle := lcs_le_left b o
      have h1 := kept_l1 (prs b o 0 0) b.length (prs_rise b o 0 0) (fun p hp => (prs_mem b o 0 0 p hp).2.2.1) (by omega) (prs b o 0 0).length 0 (by omega)
      rw [List.take_zero, ← neg1_all] at h1
      refine Ev.step (f := fun k => weave_kept.l1 k (neg1 b.length b.length) ((prs b o 0 0).map P55) ((prs b o 0 0).length : Int) ((0 : Nat) : Int)) (fun k => ?_) h1
      have z : ¬ (b.length : Int) < (b.length : Int) := by omega
      rw [weave_kept.l0, if_neg z, Pairs_is b o (by omega) (by omega), Option.bind_some, List.length_map]
      rfl
    | succ d ih =>
      intro i hi
      have z1 : (i : Int) < (b.length : Int) := by omega
      have z2 : (0 : Int) ≤ (i : Int) := by omega
      have z3 : (i : Int) < ((neg1 i b.length).length : Int) := by rw [neg1_length]; exact z1
      refine Ev.step (fun k => ?_) (ih (i + 1) (by omega))
      rw [weave_kept.l0, if_pos z1, if_pos z2, if_pos z3, Int.toNat_natCast, neg1_set, wone i (by omega)]
  have h := hl0 b.length 0 (by omega)
  refine Ev.congr (fun k => ?_) h
  have z1 : (0 : Int) ≤ (b.length : Int) := by omega
  have z2 : b.length ≤ 35184372088832 := by omega
  rw [weave_kept.f, if_pos z1, Int.toNat_natCast, if_pos z2, Option.bind_some, List.length_replicate, neg1_zero]
  rfl

theorem runl_gt (K : List Tri) (x y z : Nat) (h : ∀ p ∈ K, x < p.1) : runl x y z K = 0 := by
  cases K with
  | nil => rfl
  | cons p K =>
    obtain ⟨i, j, k⟩ := p
    have : x < i := h (i, j, k) (List.mem_cons_self ..)
    rw [runl, if_neg (by omega)]
theorem runl_trs (P Q : List (Nat × Nat)) (x y z m : Nat) : runl x y z (trs P Q x (m + 1)) = if kp P x = some y ∧ kp Q x = some z then runl (x + 1) (y + 1) (z + 1) (trs P Q (x + 1) m) + 1 else 0 := by
  have hgt : ∀ p ∈ trs P Q (x + 1) m, x < p.1 := fun p hp => by have := (trs_mem P Q m (x + 1) p hp).1; omega
  cases e1 : kp P x with
  | none => rw [trs_none _ _ _ _ (Or.inl e1), runl_gt _ _ _ _ hgt, if_neg (by simp)]
  | some j =>
    cases e2 : kp Q x with
    | none => rw [trs_none _ _ _ _ (Or.inr e2), runl_gt _ _ _ _ hgt, if_neg (by simp)]
    | some k =>
      rw [trs_some _ _ _ _ _ _ e1 e2, runl]
      by_cases h : j = y ∧ k = z
      · obtain ⟨rfl, rfl⟩ := h; simp
      · rw [if_neg (fun hh => h hh.2), if_neg (fun hh => h ⟨Option.some.inj hh.1, Option.some.inj hh.2⟩)]
theorem runl_le (P Q : List (Nat × Nat)) (m : Nat) : ∀ (x y z : Nat), runl x y z (trs P Q x m) ≤ m := by
  induction m with
  | zero => intro x y z; simp [trs, runl]
  | succ m ih => intro x y z; rw [runl_trs]; split <;> (have := ih (x + 1) (y + 1) (z + 1); omega)
theorem trs_drop (P Q : List (Nat × Nat)) (m : Nat) : ∀ (x y z : Nat), (trs P Q x m).drop (runl x y z (trs P Q x m)) = trs P Q (x + runl x y z (trs P Q x m)) (m - runl x y z (trs P Q x m)) := by
  induction m with
  | zero => intro x y z; simp [trs, runl]
  | succ m ih =>
    intro x y z
    rw [runl_trs]
    by_cases h : kp P x = some y ∧ kp Q x = some z
    · rw [if_pos h, trs_some _ _ _ _ _ _ h.1 h.2, List.drop_succ_cons, ih (x + 1) (y + 1) (z + 1)]
      have e1 : x + (runl (x + 1) (y + 1) (z + 1) (trs P Q (x + 1) m) + 1) = x + 1 + runl (x + 1) (y + 1) (z + 1) (trs P Q (x + 1) m) := by omega
      have e2 : m + 1 - (runl (x + 1) (y + 1) (z + 1) (trs P Q (x + 1) m) + 1) = m - runl (x + 1) (y + 1) (z + 1) (trs P Q (x + 1) m) := by omega
      rw [e1, e2]
    · rw [if_neg h]; rfl
theorem trs_head (P Q : List (Nat × Nat)) (m : Nat) : ∀ (x i j k : Nat) (K : List Tri), trs P Q x m = (i, j, k) :: K → trs P Q i (x + m - i) = (i, j, k) :: K := by
  induction m with
  | zero => intro x i j k K h; cases h
  | succ m ih =>
    intro x i j k K h
    cases e1 : kp P x with
    | none =>
      rw [trs_none _ _ _ _ (Or.inl e1)] at h
      have := ih _ _ _ _ _ h
      rw [show x + 1 + m - i = x + (m + 1) - i by omega] at this
      exact this
    | some j' =>
      cases e2 : kp Q x with
      | none =>
        rw [trs_none _ _ _ _ (Or.inr e2)] at h
        have := ih _ _ _ _ _ h
        rw [show x + 1 + m - i = x + (m + 1) - i by omega] at this
        exact this
      | some k' =>
        have h0 := h
        rw [trs_some _ _ _ _ _ _ e1 e2] at h
        injection h with h1 h2
        injection h1 with h1 h3
        subst h1
        rw [show x + (m + 1) - x = m + 1 by omega]
        exact h0
theorem kv_eq (ps : List (Nat × Nat)) (i y : Nat) : kv ps i = (y : Int) ↔ kp ps i = some y := by
  unfold kv
  cases kp ps i with
  | none => simp
  | some j => simp; omega
theorem kv_some {ps : List (Nat × Nat)} {i j : Nat} (h : kp ps i = some j) : kv ps i = (j : Int) := by unfold kv; rw [h]
theorem kv_none {ps : List (Nat × Nat)} {i : Nat} (h : kp ps i = none) : kv ps i = -1 := by unfold kv; rw [h]
theorem run_l0 (P Q : List (Nat × Nat)) (b o t : List Int) (x y z : Nat) (hb : b.length ≤ 100000) (hy : y ≤ 100000) (hz : z ≤ 100000) (m : Nat) : ∀ n : Nat, x + n + m = b.length →
    Ev (fun k => weave_weaver_run.l0 k (n : Int) b o t (kvs P b.length) (kvs Q b.length) (x : Int) (y : Int) (z : Int)) (((n + runl (x + n) (y + n) (z + n) (trs P Q (x + n) m) : Nat) : Int), (x : Int), (y : Int), (z : Int)) := by
  induction m with
  | zero =>
    intro n hn
    refine ⟨1, fun k hk => ?_⟩
    obtain ⟨q, rfl⟩ : ∃ q, k = q + 1 := ⟨k - 1, by omega⟩
    show weave_weaver_run.l0 (q + 1) _ _ _ _ _ _ _ _ _ = _
    have z1 : ¬ ((x + n : Nat) : Int) < (b.length : Int) := by omega
    rw [weave_weaver_run.l0, wsum x n (by omega), if_neg z1]
    simp [trs, runl]
  | succ m ih =>
    intro n hn
    have nx := ih (n + 1) (by omega)
    have z1 : ((x + n : Nat) : Int) < (b.length : Int) := by omega
    have z2 : (0 : Int) ≤ ((x + n : Nat) : Int) := by omega
    have z3 : ((x + n : Nat) : Int) < ((kvs P b.length).length : Int) := by rw [kvs_length]; exact z1
    have z4 : ((x + n : Nat) : Int) < ((kvs Q b.length).length : Int) := by rw [kvs_length]; exact z1
    have u0 : x + n < b.length := by omega
    have u1 : x + n < 1000000000000 := by omega
    have u2 : y + n < 1000000000000 := by omega
    have u3 : z + n < 1000000000000 := by omega
    have u4 : n < 1000000000000 := by omega
    have g1 := kvs_get P b.length (x + n) u0
    have g2 := kvs_get Q b.length (x + n) u0
    have hr := runl_trs P Q (x + n) (y + n) (z + n) m
    have w1 := wsum x n u1
    have w2 := wsum y n u2
    have w3 := wsum z n u3
    have w4 := wone n u4
    by_cases h1 : kp P (x + n) = some (y + n)
    · by_cases h2 : kp Q (x + n) = some (z + n)
      · rw [if_pos ⟨h1, h2⟩] at hr
        have e : n + runl (x + n) (y + n) (z + n) (trs P Q (x + n) (m + 1)) = n + 1 + runl (x + (n + 1)) (y + (n + 1)) (z + (n + 1)) (trs P Q (x + (n + 1)) m) := by
          rw [hr, Nat.add_assoc n 1, Nat.add_comm 1]; rfl
        rw [e]
        refine Ev.step (fun k => ?_) nx
        rw [weave_weaver_run.l0, w1, w2, w3, w4, if_pos z1, if_pos z2, if_pos z3, g1, if_pos (kv_some h1), if_pos z4, g2, if_pos (kv_some h2)]
      · rw [if_neg (fun h => h2 h.2)] at hr
        rw [hr]
        refine ⟨1, fun k hk => ?_⟩
        obtain ⟨q, rfl⟩ : ∃ q, k = q + 1 := ⟨k - 1, (Nat.sub_add_cancel hk).symm⟩
        show weave_weaver_run.l0 (q + 1) _ _ _ _ _ _ _ _ _ = _
        rw [weave_weaver_run.l0, w1, w2, w3, w4, if_pos z1, if_pos z2, if_pos z3, g1, if_pos (kv_some h1), if_pos z4, g2, if_neg (fun h => h2 ((kv_eq _ _ _).1 h))]
        rfl
    · rw [if_neg (fun h => h1 h.1)] at hr
      rw [hr]
      refine ⟨1, fun k hk => ?_⟩
      obtain ⟨q, rfl⟩ : ∃ q, k = q + 1 := ⟨k - 1, (Nat.sub_add_cancel hk).symm⟩
      show weave_weaver_run.l0 (q + 1) _ _ _ _ _ _ _ _ _ = _
      rw [weave_weaver_run.l0, w1, w2, w3, w4, if_pos z1, if_pos z2, if_pos z3, g1, if_neg (fun h => h1 ((kv_eq _ _ _).1 h))]
      rfl
/-- The next place that both keep, or the ends. -/
def ahead (b o t : List Int) : List Tri → Int × Int × Int
  | [] => ((b.length : Int), (o.length : Int), (t.length : Int))
  | (i, j, k) :: _ => ((i : Int), (j : Int), (k : Int))
theorem next_l0 (P Q : List (Nat × Nat)) (b o t : List Int) (x y z : Int) (hb : b.length ≤ 100000) (m : Nat) : ∀ i : Nat, i + m = b.length →
    Ev (fun k => weave_weaver_next.l0 k (i : Int) b o t (kvs P b.length) (kvs Q b.length) x y z) ((ahead b o t (trs P Q i m)).1, (ahead b o t (trs P Q i m)).2.1, (ahead b o t (trs P Q i m)).2.2, x, y, z) := by
  induction m with
  | zero =>
    intro i hi
    refine ⟨1, fun k hk => ?_⟩
    obtain ⟨q, rfl⟩ : ∃ q, k = q + 1 := ⟨k - 1, by omega⟩
    show weave_weaver_next.l0 (q + 1) _ _ _ _ _ _ _ _ _ = _
    have z1 : ¬ (i : Int) < (b.length : Int) := by omega
    rw [weave_weaver_next.l0, if_neg z1]
    rfl
  | succ m ih =>
    intro i hi
    have nx := ih (i + 1) (by omega)
    have z1 : (i : Int) < (b.length : Int) := by omega
    have z2 : (0 : Int) ≤ (i : Int) := by omega
    have z3 : (i : Int) < ((kvs P b.length).length : Int) := by rw [kvs_length]; exact z1
    have z4 : (i : Int) < ((kvs Q b.length).length : Int) := by rw [kvs_length]; exact z1
    have u0 : i < b.length := by omega
    have u1 : i < 1000000000000 := by omega
    have zn : ¬ (-1 : Int) ≥ 0 := by omega
    have zj : ∀ j : Nat, (j : Int) ≥ 0 := fun j => by omega
    have g1 := kvs_get P b.length i u0
    have g2 := kvs_get Q b.length i u0
    have w4 := wone i u1
    cases e1 : kp P i with
    | none =>
      rw [trs_none _ _ _ _ (Or.inl e1)]
      refine Ev.step (fun k => ?_) nx
      rw [weave_weaver_next.l0, if_pos z1, if_pos z2, if_pos z3, g1, kv_none e1, if_neg zn, w4]
    | some j =>
      cases e2 : kp Q i with
      | none =>
        rw [trs_none _ _ _ _ (Or.inr e2)]
        refine Ev.step (fun k => ?_) nx
        rw [weave_weaver_next.l0, if_pos z1, if_pos z2, if_pos z3, g1, kv_some e1, if_pos (zj j), if_pos z4, g2, kv_none e2, if_neg zn, w4]
      | some k =>
        rw [trs_some _ _ _ _ _ _ e1 e2]
        refine ⟨1, fun q hk => ?_⟩
        obtain ⟨q, rfl⟩ : ∃ q', q = q' + 1 := ⟨q - 1, (Nat.sub_add_cancel hk).symm⟩
        show weave_weaver_next.l0 (q + 1) _ _ _ _ _ _ _ _ _ = _
        rw [weave_weaver_next.l0, if_pos z1, if_pos z2, if_pos z3, g1, kv_some e1, if_pos (zj j), if_pos z4, g2, kv_some e2, if_pos (zj k)]
        rfl
/-- A chunk as the program has it. -/
def C75 (c : Ch) : S75 := ⟨⟨(c.x0 : Int), (c.x1 : Int)⟩, ⟨(c.y0 : Int), (c.y1 : Int)⟩, ⟨(c.z0 : Int), (c.z1 : Int)⟩, c.c⟩

theorem chain_drop {b o t : List Int} {K : List Tri} : ∀ {x y z : Nat}, Chain b o t x y z K → Chain b o t (x + runl x y z K) (y + runl x y z K) (z + runl x y z K) (K.drop (runl x y z K)) := by
  induction K with
  | nil => intro x y z h; simpa [runl] using h
  | cons p K ih =>
    obtain ⟨i, j, k⟩ := p
    intro x y z h
    rw [runl]
    by_cases hh : i = x ∧ j = y ∧ k = z
    · rw [if_pos hh, List.drop_succ_cons]
      obtain ⟨rfl, rfl, rfl⟩ := hh
      cases h with
      | cons _ _ _ _ _ _ _ h1 h2 h3 hx hy hz e1 e2 hc =>
      have := ih hc
      rw [show i + (runl (i + 1) (j + 1) (k + 1) K + 1) = i + 1 + runl (i + 1) (j + 1) (k + 1) K by omega, show j + (runl (i + 1) (j + 1) (k + 1) K + 1) = j + 1 + runl (i + 1) (j + 1) (k + 1) K by omega, show k + (runl (i + 1) (j + 1) (k + 1) K + 1) = k + 1 + runl (i + 1) (j + 1) (k + 1) K by omega]
      exact this
    · rw [if_neg hh]; exact h
/-- A round, behind the run that is ahead. -/
def afterNext (b o t bo bt : List Int) (out : List S75) (k : Nat) (p : Int × Int × Int × Int × Int × Int) : Option (List S75) :=
  if (0 ≤ p.2.2.2.1 ∧ p.2.2.2.1 ≤ p.1 ∧ p.1 ≤ (b.length : Int)) ∧ (0 ≤ p.2.2.2.2.1 ∧ p.2.2.2.2.1 ≤ p.2.1 ∧ p.2.1 ≤ (o.length : Int)) ∧ (0 ≤ p.2.2.2.2.2 ∧ p.2.2.2.2.2 ≤ p.2.2.1 ∧ p.2.2.1 ≤ (t.length : Int)) then
    weave_Chunks.l0 k b o t bo bt p.1 p.2.1 p.2.2.1 (out ++ [⟨⟨p.2.2.2.1, p.1⟩, ⟨p.2.2.2.2.1, p.2.1⟩, ⟨p.2.2.2.2.2, p.2.2.1⟩, XWv.outc (XWv.part b p.2.2.2.1.toNat p.1.toNat) (XWv.part o p.2.2.2.2.1.toNat p.2.1.toNat) (XWv.part t p.2.2.2.2.2.toNat p.2.2.1.toNat)⟩])
  else none
def afterRun (b o t bo bt : List Int) (out : List S75) (k : Nat) (q : Int × Int × Int × Int) : Option (List S75) :=
  if 0 < q.1 then weave_Chunks.l0 k b o t bo bt (wrap64 (q.2.1 + q.1)) (wrap64 (q.2.2.1 + q.1)) (wrap64 (q.2.2.2 + q.1)) (out ++ [⟨⟨q.2.1, wrap64 (q.2.1 + q.1)⟩, ⟨q.2.2.1, wrap64 (q.2.2.1 + q.1)⟩, ⟨q.2.2.2, wrap64 (q.2.2.2 + q.1)⟩, 1⟩])
  else (weave_weaver_next.f k b o t bo bt q.2.1 q.2.2.1 q.2.2.2).bind (afterNext b o t bo bt out k)
theorem l0_round (b o t bo bt : List Int) (x y z : Int) (out : List S75) (c1 : x < (b.length : Int) ∨ y < (o.length : Int) ∨ z < (t.length : Int)) (c2 : out.length < 1000000) (k : Nat) :
    weave_Chunks.l0 (k + 1) b o t bo bt x y z out = (weave_weaver_run.f k b o t bo bt x y z).bind (afterRun b o t bo bt out k) := by
  rw [weave_Chunks.l0, if_pos c1, if_pos c2]
  rfl
theorem loop_ev (b o t : List Int) (hb : b.length ≤ 100000) (ho : o.length ≤ 100000) (ht : t.length ≤ 100000) (d : Nat) : ∀ (x y z : Nat) (out : List S75), (b.length - x) + (o.length - y) + (t.length - z) = d → out.length ≤ x + y + z →
    Chain b o t x y z (trs (prs b o 0 0) (prs b t 0 0) x (b.length - x)) →
    Ev (fun k => weave_Chunks.l0 k b o t (kvs (prs b o 0 0) b.length) (kvs (prs b t 0 0) b.length) (x : Int) (y : Int) (z : Int) out) (out ++ (chs b o t x y z 0 (trs (prs b o 0 0) (prs b t 0 0) x (b.length - x))).map C75) := by
  induction d using Nat.strongRecOn with
  | ind d ih =>
    intro x y z out hd hout hc
    obtain ⟨lx, ly, lz⟩ := hc.le
    by_cases hin : x < b.length ∨ y < o.length ∨ z < t.length
    · have c1 : (x : Int) < (b.length : Int) ∨ (y : Int) < (o.length : Int) ∨ (z : Int) < (t.length : Int) := by omega
      have c2 : out.length < 1000000 := by omega
      have hrun := run_l0 (prs b o 0 0) (prs b t 0 0) b o t x y z hb (by omega) (by omega) (b.length - x) 0 (by omega)
      simp only [Nat.add_zero, Nat.zero_add] at hrun
      have hle := runl_le (prs b o 0 0) (prs b t 0 0) (b.length - x) x y z
      have hdrop := trs_drop (prs b o 0 0) (prs b t 0 0) (b.length - x) x y z
      have hcd := chain_drop hc
      by_cases h0 : 0 < runl x y z (trs (prs b o 0 0) (prs b t 0 0) x (b.length - x))
      · rw [chs_same _ _ _ _ _ _ _ h0]
        rw [hdrop] at hcd ⊢
        generalize hR : runl x y z (trs (prs b o 0 0) (prs b t 0 0) x (b.length - x)) = R at *
        clear hR hdrop
        rw [show b.length - x - R = b.length - (x + R) by omega] at hcd ⊢
        obtain ⟨mx', my, mz⟩ := hcd.le
        have nx := ih ((b.length - (x + R)) + (o.length - (y + R)) + (t.length - (z + R))) (by omega) (x + R) (y + R) (z + R) (out ++ [C75 ⟨x, x + R, y, y + R, z, z + R, 1⟩]) rfl (by simp; omega) hcd
        rw [List.map_cons, ← List.singleton_append, ← List.append_assoc]
        have c3 : (0 : Int) < (R : Int) := by omega
        have u1 : x + R < 1000000000000 := by omega
        have u2 : y + R < 1000000000000 := by omega
        have u3 : z + R < 1000000000000 := by omega
        refine Ev.step (l0_round b o t _ _ _ _ _ out c1 c2) (Ev.bind hrun (Ev.congr (fun k => ?_) nx))
        · show (if (0 : Int) < (R : Int) then weave_Chunks.l0 k b o t _ _ (wrap64 ((x : Int) + (R : Int))) (wrap64 ((y : Int) + (R : Int))) (wrap64 ((z : Int) + (R : Int))) (out ++ [⟨⟨(x : Int), wrap64 ((x : Int) + (R : Int))⟩, ⟨(y : Int), wrap64 ((y : Int) + (R : Int))⟩, ⟨(z : Int), wrap64 ((z : Int) + (R : Int))⟩, 1⟩]) else _) = _
          rw [if_pos c3, wsum x R u1, wsum y R u2, wsum z R u3]
          rfl
      · have h0' : runl x y z (trs (prs b o 0 0) (prs b t 0 0) x (b.length - x)) = 0 := by omega
        rw [h0'] at hrun
        clear hdrop hcd hle h0
        have hnext := next_l0 (prs b o 0 0) (prs b t 0 0) b o t (x : Int) (y : Int) (z : Int) hb (b.length - x) x (by omega)
        have key : ∀ (i j k : Nat) (K : List Tri), ahead b o t (trs (prs b o 0 0) (prs b t 0 0) x (b.length - x)) = ((i : Int), (j : Int), (k : Int)) → x ≤ i → i ≤ b.length → y ≤ j → j ≤ o.length → z ≤ k → k ≤ t.length → x + y + z < i + j + k →
            Chain b o t i j k (trs (prs b o 0 0) (prs b t 0 0) i (b.length - i)) → chs b o t x y z 0 (trs (prs b o 0 0) (prs b t 0 0) x (b.length - x)) = gap b o t x i y j z k :: chs b o t i j k 0 (trs (prs b o 0 0) (prs b t 0 0) i (b.length - i)) →
            Ev (fun k => weave_Chunks.l0 k b o t (kvs (prs b o 0 0) b.length) (kvs (prs b t 0 0) b.length) (x : Int) (y : Int) (z : Int) out) (out ++ (chs b o t x y z 0 (trs (prs b o 0 0) (prs b t 0 0) x (b.length - x))).map C75) := by
          intro i j k K hah hi hi' hj hj' hk hk' hlt hci hch
          rw [hch]
          rw [hah] at hnext
          have nx := ih ((b.length - i) + (o.length - j) + (t.length - k)) (by omega) i j k (out ++ [C75 (gap b o t x i y j z k)]) rfl (by simp; omega) hci
          rw [List.map_cons, ← List.singleton_append, ← List.append_assoc]
          have c3 : ¬ (0 : Int) < ((0 : Nat) : Int) := by omega
          have c4 : (0 ≤ (x : Int) ∧ (x : Int) ≤ (i : Int) ∧ (i : Int) ≤ (b.length : Int)) ∧ (0 ≤ (y : Int) ∧ (y : Int) ≤ (j : Int) ∧ (j : Int) ≤ (o.length : Int)) ∧ (0 ≤ (z : Int) ∧ (z : Int) ≤ (k : Int) ∧ (k : Int) ≤ (t.length : Int)) := by omega
          refine Ev.step (l0_round b o t _ _ _ _ _ out c1 c2) (Ev.bind hrun (Ev.congr (f := fun k => (weave_weaver_next.f k b o t (kvs (prs b o 0 0) b.length) (kvs (prs b t 0 0) b.length) (x : Int) (y : Int) (z : Int)).bind (afterNext b o t _ _ out k)) (fun k => if_neg c3) (Ev.bind hnext (Ev.congr (fun q => ?_) nx))))
          exact (if_pos c4).trans rfl
        cases hT : trs (prs b o 0 0) (prs b t 0 0) x (b.length - x) with
        | nil =>
          rw [← hT]
          refine key b.length o.length t.length [] (by rw [hT]; rfl) lx (Nat.le_refl _) ly (Nat.le_refl _) lz (Nat.le_refl _) (by omega) ?_ ?_
          · rw [Nat.sub_self]; exact .nil _ _ _ (Nat.le_refl _) (Nat.le_refl _) (Nat.le_refl _)
          · rw [hT, Nat.sub_self, chs_last _ _ _ _ _ _ hin]
            show _ = _ :: chs b o t b.length o.length t.length 0 []
            rw [chs_end]
        | cons p K =>
          obtain ⟨i, j, k⟩ := p
          rw [← hT]
          have hh := trs_head _ _ _ _ _ _ _ _ hT
          rw [show x + (b.length - x) - i = b.length - i by omega] at hh
          have hc2 := hc
          rw [hT] at hc2 h0'
          cases hc2 with
          | cons _ _ _ _ _ _ _ h1 h2 h3 hx hy hz e1 e2 hcc =>
          refine key i j k K (by rw [hT]; rfl) h1 (by omega) h2 (by omega) h3 (by omega) ?_ ?_ ?_
          · rw [runl] at h0'
            by_cases hh : i = x ∧ j = y ∧ k = z
            · rw [if_pos hh] at h0'; omega
            · omega
          · rw [hh]; exact .cons _ _ _ _ _ _ _ (Nat.le_refl _) (Nat.le_refl _) (Nat.le_refl _) hx hy hz e1 e2 hcc
          · rw [hT, hh]; exact chs_next _ _ _ _ _ _ _ _ _ _ h0'
    · have hx : x = b.length := by omega
      have hy : y = o.length := by omega
      have hz : z = t.length := by omega
      have c1 : ¬ ((x : Int) < (b.length : Int) ∨ (y : Int) < (o.length : Int) ∨ (z : Int) < (t.length : Int)) := by omega
      refine ⟨1, fun k hk => ?_⟩
      obtain ⟨q, rfl⟩ : ∃ q, k = q + 1 := ⟨k - 1, (Nat.sub_add_cancel hk).symm⟩
      show weave_Chunks.l0 (q + 1) _ _ _ _ _ _ _ _ _ = _
      rw [weave_Chunks.l0, if_neg c1]
      subst hx; subst hy; subst hz
      rw [Nat.sub_self]
      show _ = some (out ++ (chs b o t b.length o.length t.length 0 []).map C75)
      rw [chs_end, List.map_nil, List.append_nil]
theorem Chunks_ev (b o t : List Int) (hb : b.length ≤ 100000) (ho : o.length ≤ 100000) (ht : t.length ≤ 100000) : Ev (fun k => weave_Chunks.f k b o t) ((chunks b o t).map C75) := by
  have h := loop_ev b o t hb ho ht _ 0 0 0 [] rfl (Nat.le_refl _) (chain_tri b o t)
  exact Ev.bind (kept_ev b o hb ho) (Ev.bind (kept_ev b t hb ht) h)
end Go.Proofs.Ytlkgdfeeepiidaa.Wv
namespace Go.Proofs.Ytlkgdfeeepiidaa.Wv
open Go.RowKit Go.Proofs.Ytlkgdfeeepiidaa.All Go.Proofs.Ytlkgdfeeepiidaa.Lcs Go.Proofs.Ytlkgdfeeepiidaa.XLcs Go.Proofs.YtlkgdfeeepiidaaW.PrintWords Go.Proofs.YtlkgdfeeepiidaaW.PrintLast
theorem trs_length (P Q : List (Nat × Nat)) (m : Nat) : ∀ x, (trs P Q x m).length ≤ m := by
  induction m with
  | zero => intro x; simp [trs]
  | succ m ih =>
    intro x
    rw [trs]
    split
    · simp; exact ih _
    · exact Nat.le_trans (ih _) (Nat.le_succ m)
theorem chs_length (b o t : List Int) (K : List Tri) : ∀ (x y z n : Nat), (chs b o t x y z n K).length ≤ 2 * K.length + 2 := by
  have hs : ∀ x y z n, (same x y z n).length ≤ 1 := by intro x y z n; unfold same; split <;> simp
  induction K with
  | nil =>
    intro x y z n
    rw [chs, List.length_append]
    have := hs x y z n
    split <;> simp <;> omega
  | cons p K ih =>
    obtain ⟨i, j, k⟩ := p
    intro x y z n
    rw [chs]
    split
    · have := ih x y z (n + 1); simp; omega
    · have := hs x y z n
      have := ih i j k 1
      rw [List.length_append, List.length_cons, List.length_cons]
      omega
/-- A chunk lies within the lists. -/
def Ch.ok (o t : List Int) (c : Ch) : Prop := c.y0 ≤ c.y1 ∧ c.y1 ≤ o.length ∧ c.z0 ≤ c.z1 ∧ c.z1 ≤ t.length
theorem same_ok (o t : List Int) (x y z n : Nat) (hy : y + n ≤ o.length) (hz : z + n ≤ t.length) : ∀ c ∈ same x y z n, c.ok o t := by
  unfold same
  split
  · intro c h; cases h
  · intro c h
    rw [List.mem_singleton] at h
    subst h
    exact ⟨by simp, hy, by simp, hz⟩
theorem chs_ok (b o t : List Int) (K : List Tri) : ∀ (x y z n : Nat), Chain b o t (x + n) (y + n) (z + n) K → ∀ c ∈ chs b o t x y z n K, c.ok o t := by
  induction K with
  | nil =>
    intro x y z n hc
    obtain ⟨_, hy, hz⟩ := hc.le
    rw [chs]
    intro c h
    rcases List.mem_append.1 h with h | h
    · exact same_ok o t x y z n hy hz c h
    · split at h
      · rw [List.mem_singleton] at h
        subst h
        exact ⟨hy, Nat.le_refl _, hz, Nat.le_refl _⟩
      · cases h
  | cons p K ih =>
    obtain ⟨i, j, k⟩ := p
    intro x y z n hc
    obtain ⟨_, hy, hz⟩ := hc.le
    cases hc with
    | cons _ _ _ _ _ _ _ h1 h2 h3 hx' hy' hz' e1 e2 hc =>
    rw [chs]
    split
    · rename_i hh
      obtain ⟨rfl, rfl, rfl⟩ := hh
      exact ih x y z (n + 1) hc
    · intro c h
      rcases List.mem_append.1 h with h | h
      · exact same_ok o t x y z n hy hz c h
      · rcases List.mem_cons.1 h with rfl | h
        · exact ⟨h2, Nat.le_of_lt hy', h3, Nat.le_of_lt hz'⟩
        · exact ih i j k 1 hc c h
theorem cont_none (o t : List Int) (cs : List Ch) : cont o t cs = none ↔ ∃ c ∈ cs, c.c = 5 := by
  induction cs with
  | nil => simp [cont]
  | cons c cs ih =>
    rw [cont]
    by_cases h : c.c = 5
    · simp [h]
    · rw [if_neg h, Option.map_eq_none_iff, ih]
      simp [h]
theorem gp_length {b o t r : List Int} (h : gp b o t = some r) : r.length ≤ o.length + t.length := by
  unfold gp at h
  split at h
  · cases h; omega
  · split at h
    · cases h; omega
    · split at h
      · cases h; omega
      · cases h
theorem mrg_length (b o t : List Int) (K : List Tri) : ∀ (x y z : Nat) (r : List Int), Chain b o t x y z K → mrg b o t x y z K = some r → r.length + y + z ≤ o.length + t.length := by
  induction K with
  | nil =>
    intro x y z r hc h
    obtain ⟨_, hy, hz⟩ := hc.le
    rw [mrg] at h
    have := gp_length h
    simp at this
    omega
  | cons p K ih =>
    obtain ⟨i, j, k⟩ := p
    intro x y z r hc h
    cases hc with
    | cons _ _ _ _ _ _ _ h1 h2 h3 hx' hy' hz' e1 e2 hc =>
    rw [mrg] at h
    obtain ⟨p, hp, h⟩ := Option.bind_eq_some_iff.1 h
    obtain ⟨q, hq, rfl⟩ := Option.map_eq_some_iff.1 h
    have := gp_length hp
    have := ih _ _ _ _ hc hq
    rw [seg_length _ _ _ (by omega), seg_length _ _ _ (by omega)] at *
    rw [List.length_append, List.length_append, seg_length _ _ _ (by omega)]
    omega
theorem cutOf_is (l : List Int) (x y : Nat) (h : x ≤ y) (h' : y ≤ l.length) : cutOf l ⟨(x : Int), (y : Int)⟩ = some (seg l x y) := by
  unfold cutOf
  rw [if_pos ⟨by show (0 : Int) ≤ (x : Int); omega, by show (x : Int) ≤ (y : Int); omega, by show (y : Int) ≤ (l.length : Int); omega⟩]
  rfl
theorem mergeL_is (o t : List Int) (cs : List Ch) (hv : ∀ c ∈ cs, c.ok o t) : ∀ (out r : List Int), cont o t cs = some r → out.length + r.length ≤ 1000000 → mergeL o t (cs.map C75) out = some (out ++ r) := by
  induction cs with
  | nil => intro out r h _; rw [cont] at h; cases h; simp [mergeL]
  | cons c cs ih =>
    intro out r h hl
    rw [cont] at h
    split at h
    · cases h
    · obtain ⟨q, hq, rfl⟩ := Option.map_eq_some_iff.1 h
      obtain ⟨h1, h2, h3, h4⟩ := hv c (List.mem_cons_self ..)
      rw [List.map_cons, mergeL]
      have e : (if (C75 c).f3 = 2 ∨ (C75 c).f3 = 4 then cutOf o (C75 c).f1 else cutOf t (C75 c).f2) = some (if c.c = 2 ∨ c.c = 4 then seg o c.y0 c.y1 else seg t c.z0 c.z1) := by
        show (if c.c = 2 ∨ c.c = 4 then cutOf o ⟨(c.y0 : Int), (c.y1 : Int)⟩ else cutOf t ⟨(c.z0 : Int), (c.z1 : Int)⟩) = _
        split
        · exact cutOf_is o _ _ h1 h2
        · exact cutOf_is t _ _ h3 h4
      rw [e, Option.bind_some]
      generalize (if c.c = 2 ∨ c.c = 4 then seg o c.y0 c.y1 else seg t c.z0 c.z1) = p at *
      rw [List.length_append] at hl
      rw [if_pos (by omega), ih (fun c hc => hv c (List.mem_cons_of_mem _ hc)) (out ++ p) q hq (by rw [List.length_append]; omega), List.append_assoc]
/-- What Merge hands back. -/
def mres (b o t : List Int) : List Int × Bool := match merge b o t with
  | some r => (r, true)
  | none => ([], false)
theorem Merge_ev (b o t : List Int) (hb : b.length ≤ 100000) (ho : o.length ≤ 100000) (ht : t.length ≤ 100000) : Ev (fun k => weave_Merge.f k b o t) (mres b o t) := by
  refine Ev.bind (Chunks_ev b o t hb ho ht) ⟨0, fun k _ => ?_⟩
  have hlen : (chunks b o t).length ≤ 1000000 := by
    have h1 := chs_length b o t (tri b o t) 0 0 0 0
    have h2 := trs_length (prs b o 0 0) (prs b t 0 0) b.length 0
    unfold chunks tri at *
    omega
  have hall := cont_all b o t
  have hc0 := chain_tri b o t
  have hcl : weave_Clean.f ((chunks b o t).map C75) = some (! ((chunks b o t).map C75).any (fun x => x.f3 == 5)) := by
    unfold weave_Clean.f
    rw [if_pos (by rw [List.length_map]; exact hlen)]
  rw [hcl, Option.bind_some]
  unfold mres merge
  cases hm : mrg b o t 0 0 0 (tri b o t) with
  | none =>
    rw [hm] at hall
    obtain ⟨c, hc, h5⟩ := (cont_none o t _).1 hall
    have ha : ((chunks b o t).map C75).any (fun x => x.f3 == 5) = true := by
      rw [List.any_eq_true]
      exact ⟨C75 c, List.mem_map_of_mem hc, by show (c.c == 5) = true; rw [h5]; rfl⟩
    rw [ha]
    rfl
  | some r =>
    rw [hm] at hall
    have ha : ((chunks b o t).map C75).any (fun x => x.f3 == 5) = false := by
      rw [Bool.eq_false_iff, Ne, List.any_eq_true]
      rintro ⟨x, hx, h5⟩
      obtain ⟨c, hc, rfl⟩ := List.mem_map.1 hx
      have : cont o t (chs b o t 0 0 0 0 (tri b o t)) = none := (cont_none o t _).2 ⟨c, hc, by simpa [C75] using h5⟩
      rw [this] at hall
      cases hall
    rw [ha]
    have hr := mrg_length b o t _ 0 0 0 r hc0 hm
    have hml := mergeL_is o t (chunks b o t) (chs_ok b o t _ 0 0 0 0 hc0) [] r hall (by simp; omega)
    show (if (!false) = true then _ else _) = _
    rw [if_pos (show (!false) = true from rfl), hml]
    rfl
/-- Are numbers alike. -/
theorem Same3_ev (a b : List Int) (ha : a.length ≤ 1000000) : Ev (fun k => emendationref03_Same.f k a b) (a == b) := by
  by_cases hl : a.length = b.length
  · have hl0 : ∀ (d i : Nat), i + d = a.length → Ev (fun k => emendationref03_Same.l0 k a b (a.length : Int) (i : Int)) (a.drop i == b.drop i) := by
      intro d
      induction d with
      | zero =>
        intro i hi
        refine ⟨1, fun k hk => ?_⟩
        obtain ⟨q, rfl⟩ : ∃ q, k = q + 1 := ⟨k - 1, (Nat.sub_add_cancel hk).symm⟩
        show emendationref03_Same.l0 (q + 1) _ _ _ _ = _
        have z : ¬ (i : Int) < (a.length : Int) := by omega
        rw [emendationref03_Same.l0, if_neg z, List.drop_eq_nil_of_le (by omega), List.drop_eq_nil_of_le (by omega)]
        rfl
      | succ d ih =>
        intro i hi
        have z1 : (i : Int) < (a.length : Int) := by omega
        have z2 : (0 : Int) ≤ (i : Int) := by omega
        have z3 : (i : Int) < (b.length : Int) := by omega
        have nx := ih (i + 1) (by omega)
        have w := wone i (by omega)
        have g1 := rd_nat a i (by omega)
        have g2 := rd_nat b i (by omega)
        have e1 := List.drop_eq_getElem_cons (l := a) (i := i) (by clear w g1 g2; omega)
        have e2 := List.drop_eq_getElem_cons (l := b) (i := i) (by clear w g1 g2; omega)
        rw [e1, e2, List.cons_beq_cons]
        by_cases he : a[i]'(by clear w g1 g2 e1 e2; omega) = b[i]'(by clear w g1 g2 e1 e2; omega)
        · refine Ev.step (fun k => ?_) (f := fun k => emendationref03_Same.l0 k a b (a.length : Int) ((i + 1 : Nat) : Int)) ?_
          · rw [emendationref03_Same.l0, if_pos z1, if_pos z2, if_pos z1, if_pos z3, g1, g2, if_pos he, w]
          · rw [beq_iff_eq.2 he, Bool.true_and]; exact nx
        · refine ⟨1, fun k hk => ?_⟩
          obtain ⟨q, rfl⟩ : ∃ q, k = q + 1 := ⟨k - 1, (Nat.sub_add_cancel hk).symm⟩
          show emendationref03_Same.l0 (q + 1) _ _ _ _ = _
          rw [emendationref03_Same.l0, if_pos z1, if_pos z2, if_pos z1, if_pos z3, g1, g2, if_neg he, beq_eq_false_iff_ne.2 he, Bool.false_and]
    have h := hl0 a.length 0 (by omega)
    simp only [List.drop_zero] at h
    refine Ev.congr (fun k => ?_) h
    have z : (a.length : Int) = (b.length : Int) := by omega
    rw [emendationref03_Same.f, if_pos z]
    rfl
  · refine ⟨0, fun k _ => ?_⟩
    have z : ¬ (a.length : Int) = (b.length : Int) := by omega
    show emendationref03_Same.f k a b = _
    rw [emendationref03_Same.f, if_neg z]
    have : (a == b) = false := by rw [beq_eq_false_iff_ne]; intro h; exact hl (by rw [h])
    rw [this]
theorem pairs1 : prs [1, 2, 3] [1, 4, 3] 0 0 = [(0, 0), (2, 2)] := by
  simp [prs, tv, lcs_cons, lcs_nil_left, lcs_nil_right]
theorem pairs2 : prs [1, 2, 3] [1, 2, 3, 5] 0 0 = [(0, 0), (1, 1), (2, 2)] := by
  simp [prs]
theorem merge1 : merge [1, 2, 3] [1, 4, 3] [1, 2, 3, 5] = some [1, 4, 3, 5] := by
  unfold merge tri
  rw [pairs1, pairs2]
  rfl
theorem awake_ev : Ev (fun k => emendationlaw05_awake.f k) true := by
  have h := Merge_ev [1, 2, 3] [1, 4, 3] [1, 2, 3, 5] (by simp) (by simp) (by simp)
  have e : mres [1, 2, 3] [1, 4, 3] [1, 2, 3, 5] = ([1, 4, 3, 5], true) := by unfold mres; rw [merge1]
  rw [e] at h
  exact Ev.bind h ⟨0, fun k _ => rfl⟩
theorem few_is (a b c : List Int) : emendationlaw05_few.f a b c = some (decide (a.length ≤ 40 ∧ b.length ≤ 40 ∧ c.length ≤ 40)) := by
  unfold emendationlaw05_few.f
  by_cases h1 : a.length ≤ 40
  · rw [if_pos (by omega)]
    by_cases h2 : b.length ≤ 40
    · rw [if_pos (by omega)]
      congr 1
      rw [decide_eq_decide]
      omega
    · rw [if_neg (by omega)]
      simp [h2]
  · rw [if_neg (by omega)]
    simp [h1]
end Go.Proofs.Ytlkgdfeeepiidaa.Wv
