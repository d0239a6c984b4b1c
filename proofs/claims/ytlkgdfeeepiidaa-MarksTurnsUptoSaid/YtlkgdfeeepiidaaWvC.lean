/- Plain words on three lists, part by part: the places that both sides keep, the chunks, and what comes of them. No program here. · What the printed Pairs come to; places of lists. · weave's functions, as printed, tell what the plain words say. · weave.Merge, as printed, tells what the plain words say; the laws' small functions. -/
import Derived.Test.YtlkgdfeeepiidaaLcsMath
import Derived.Test.YtlkgdfeeepiidaaXPairs
import Derived.Test.YtlkgdfeeepiidaaXWv
namespace Go.Proofs.Ytlkgdfeeepiidaa.Wv
open Go.Proofs.Ytlkgdfeeepiidaa.Lcs

/-- The numbers from one place on, up to another. -/
def seg (l : List Int) (f t : Nat) : List Int := (l.take t).drop f
theorem seg_nil (l : List Int) (f : Nat) : seg l f f = [] := by unfold seg; simp
theorem seg_all (l : List Int) (f : Nat) : seg l f l.length = l.drop f := by unfold seg; simp
theorem seg_one (l : List Int) (f : Nat) (h : f < l.length) : seg l f (f + 1) = [l[f]] := by
  unfold seg
  apply List.ext_getElem
  · simp; omega
  · intro i h1 h2
    simp at h1 h2 ⊢
    have : i = 0 := by omega
    subst this
    simp
theorem seg_drop (l : List Int) (f t : Nat) (h : f ≤ t) : seg l f t ++ l.drop t = l.drop f := by
  unfold seg
  apply List.ext_getElem?
  intro i
  simp only [List.getElem?_append, List.getElem?_drop, List.getElem?_take, List.length_drop, List.length_take]
  by_cases h1 : t ≤ l.length
  · rw [Nat.min_eq_left h1]
    by_cases h2 : i < t - f
    · rw [if_pos h2, if_pos (by omega)]
    · rw [if_neg h2]; congr 1; omega
  · rw [Nat.min_eq_right (by omega)]
    by_cases h2 : i < l.length - f
    · rw [if_pos h2, if_pos (by omega)]
    · rw [if_neg h2, List.getElem?_eq_none (by omega), List.getElem?_eq_none (by omega)]
theorem seg_seg (l : List Int) (f m t : Nat) (h1 : f ≤ m) (h2 : m ≤ t) : seg l f m ++ seg l m t = seg l f t := by
  have := seg_drop (l.take t) f m h1
  unfold seg at this ⊢
  rw [List.take_take, Nat.min_eq_left h2] at this
  exact this

/-- A place that both sides keep, and where. -/
abbrev Tri := Nat × Nat × Nat
/-- A chunk: the ends of its parts, and its outcome. -/
structure Ch where
  x0 : Nat
  x1 : Nat
  y0 : Nat
  y1 : Nat
  z0 : Nat
  z1 : Nat
  c : Int
/-- What comes of a part that isn't a run of stable places. -/
def outc (b o t : List Int) : Int := if (o == t) = true then 4 else if (o == b) = true then 3 else if (t == b) = true then 2 else 5
def same (x y z n : Nat) : List Ch := if n = 0 then [] else [⟨x, x + n, y, y + n, z, z + n, 1⟩]
def gap (b o t : List Int) (x i y j z k : Nat) : Ch := ⟨x, i, y, j, z, k, outc (seg b x i) (seg o y j) (seg t z k)⟩
/-- The chunks: n stable places from (x, y, z) on are gone through. -/
def chs (b o t : List Int) : Nat → Nat → Nat → Nat → List Tri → List Ch
  | x, y, z, n, [] => same x y z n ++ (if x + n < b.length ∨ y + n < o.length ∨ z + n < t.length then [gap b o t (x + n) b.length (y + n) o.length (z + n) t.length] else [])
  | x, y, z, n, (i, j, k) :: K => if i = x + n ∧ j = y + n ∧ k = z + n then chs b o t x y z (n + 1) K else same x y z n ++ gap b o t (x + n) i (y + n) j (z + n) k :: chs b o t i j k 1 K
theorem same_zero (x y z : Nat) : same x y z 0 = [] := rfl
theorem same_pos (x y z n : Nat) (h : 0 < n) : same x y z n = [⟨x, x + n, y, y + n, z, z + n, 1⟩] := if_neg (by omega)
/-- How many stable places are ahead. -/
def runl : Nat → Nat → Nat → List Tri → Nat
  | _, _, _, [] => 0
  | x, y, z, (i, j, k) :: K => if i = x ∧ j = y ∧ k = z then runl (x + 1) (y + 1) (z + 1) K + 1 else 0
theorem chs_run (b o t : List Int) (K : List Tri) : ∀ (x y z n : Nat), chs b o t x y z n K = chs b o t x y z (n + runl (x + n) (y + n) (z + n) K) (K.drop (runl (x + n) (y + n) (z + n) K)) := by
  induction K with
  | nil => intro x y z n; simp [runl]
  | cons p K ih =>
    obtain ⟨i, j, k⟩ := p
    intro x y z n
    rw [chs, runl]
    by_cases h : i = x + n ∧ j = y + n ∧ k = z + n
    · rw [if_pos h, if_pos h, ih]
      rw [List.drop_succ_cons]
      have e : n + (runl (x + n + 1) (y + n + 1) (z + n + 1) K + 1) = n + 1 + runl (x + n + 1) (y + n + 1) (z + n + 1) K := by omega
      rw [e]
      rfl
    · rw [if_neg h, if_neg h]
      simp [chs, h]
theorem runl_drop (K : List Tri) : ∀ (x y z : Nat), runl (x + runl x y z K) (y + runl x y z K) (z + runl x y z K) (K.drop (runl x y z K)) = 0 := by
  induction K with
  | nil => intro x y z; simp [runl]
  | cons p K ih =>
    obtain ⟨i, j, k⟩ := p
    intro x y z
    rw [runl]
    by_cases h : i = x ∧ j = y ∧ k = z
    · rw [if_pos h, List.drop_succ_cons]
      have e1 : x + (runl (x + 1) (y + 1) (z + 1) K + 1) = x + 1 + runl (x + 1) (y + 1) (z + 1) K := by omega
      have e2 : y + (runl (x + 1) (y + 1) (z + 1) K + 1) = y + 1 + runl (x + 1) (y + 1) (z + 1) K := by omega
      have e3 : z + (runl (x + 1) (y + 1) (z + 1) K + 1) = z + 1 + runl (x + 1) (y + 1) (z + 1) K := by omega
      rw [e1, e2, e3]
      exact ih _ _ _
    · rw [if_neg h]
      simp [runl, h]
/-- At the end of a run: the run, and what is behind it. -/
theorem chs_stop (b o t : List Int) (K : List Tri) (x y z n : Nat) (h : runl (x + n) (y + n) (z + n) K = 0) : chs b o t x y z n K = same x y z n ++ chs b o t (x + n) (y + n) (z + n) 0 K := by
  cases K with
  | nil => simp [chs, same]
  | cons p K =>
    obtain ⟨i, j, k⟩ := p
    rw [runl] at h
    by_cases hh : i = x + n ∧ j = y + n ∧ k = z + n
    · rw [if_pos hh] at h; omega
    · rw [chs, if_neg hh, chs, if_neg (by simpa using hh)]
      simp [same]
theorem chs_same (b o t : List Int) (K : List Tri) (x y z : Nat) (h : 0 < runl x y z K) :
    chs b o t x y z 0 K = ⟨x, x + runl x y z K, y, y + runl x y z K, z, z + runl x y z K, 1⟩ :: chs b o t (x + runl x y z K) (y + runl x y z K) (z + runl x y z K) 0 (K.drop (runl x y z K)) := by
  rw [chs_run]
  simp only [Nat.zero_add, Nat.add_zero]
  rw [chs_stop _ _ _ _ _ _ _ _ (runl_drop K x y z), same_pos _ _ _ _ h]
  rfl
theorem chs_next (b o t : List Int) (K : List Tri) (x y z i j k : Nat) (h : runl x y z ((i, j, k) :: K) = 0) :
    chs b o t x y z 0 ((i, j, k) :: K) = gap b o t x i y j z k :: chs b o t i j k 0 ((i, j, k) :: K) := by
  rw [runl] at h
  by_cases hh : i = x ∧ j = y ∧ k = z
  · rw [if_pos hh] at h; omega
  · rw [chs, if_neg (by simpa using hh)]
    simp only [Nat.add_zero, same_zero, List.nil_append]
    rw [chs, if_pos ⟨rfl, rfl, rfl⟩]
theorem chs_last (b o t : List Int) (x y z : Nat) (h : x < b.length ∨ y < o.length ∨ z < t.length) : chs b o t x y z 0 [] = [gap b o t x b.length y o.length z t.length] := by
  simp [chs, same, h]
theorem chs_end (b o t : List Int) : chs b o t b.length o.length t.length 0 [] = [] := by simp [chs, same]

/-- Where a list of pairs keeps a place. -/
def kp (ps : List (Nat × Nat)) (i : Nat) : Option Nat := (ps.find? (fun p => p.1 == i)).map (·.2)
/-- The same as a number: below 0: nowhere. -/
def kv (ps : List (Nat × Nat)) (i : Nat) : Int := match kp ps i with
  | some j => (j : Int)
  | none => -1
/-- From place x on, of m places, those that both keep. -/
def trs (P Q : List (Nat × Nat)) : Nat → Nat → List Tri
  | _, 0 => []
  | x, m + 1 => match kp P x, kp Q x with
    | some j, some k => (x, j, k) :: trs P Q (x + 1) m
    | _, _ => trs P Q (x + 1) m
theorem trs_some (P Q : List (Nat × Nat)) (x m j k : Nat) (h1 : kp P x = some j) (h2 : kp Q x = some k) : trs P Q x (m + 1) = (x, j, k) :: trs P Q (x + 1) m := by rw [trs, h1, h2]
theorem trs_none (P Q : List (Nat × Nat)) (x m : Nat) (h : kp P x = none ∨ kp Q x = none) : trs P Q x (m + 1) = trs P Q (x + 1) m := by
  rw [trs]
  split
  · rename_i h1 h2; rcases h with h | h
    · rw [h] at h1; cases h1
    · rw [h] at h2; cases h2
  · rfl
theorem trs_mem (P Q : List (Nat × Nat)) (m : Nat) : ∀ (x : Nat) (p : Tri), p ∈ trs P Q x m → x ≤ p.1 ∧ p.1 < x + m ∧ kp P p.1 = some p.2.1 ∧ kp Q p.1 = some p.2.2 := by
  induction m with
  | zero => intro x p hp; cases hp
  | succ m ih =>
    intro x p hp
    rw [trs] at hp
    split at hp
    · rename_i j k h1 h2
      rcases List.mem_cons.1 hp with rfl | hp
      · exact ⟨Nat.le_refl _, by show x < x + (m + 1); omega, h1, h2⟩
      · obtain ⟨a, b, c⟩ := ih _ _ hp; exact ⟨by omega, by omega, c⟩
    · obtain ⟨a, b, c⟩ := ih _ _ hp; exact ⟨by omega, by omega, c⟩
theorem kp_mem {ps : List (Nat × Nat)} {i j : Nat} (h : kp ps i = some j) : (i, j) ∈ ps := by
  unfold kp at h
  obtain ⟨p, hp, rfl⟩ := Option.map_eq_some_iff.1 h
  have h1 := List.find?_some hp
  have h2 := List.mem_of_find?_eq_some hp
  have : p.1 = i := by simpa using h1
  rw [← this]
  exact h2
/-- The places go up, from (x, y, z) on, within the lists, and the same number stands there. -/
inductive Chain (b o t : List Int) : Nat → Nat → Nat → List Tri → Prop
  | nil (x y z : Nat) (hx : x ≤ b.length) (hy : y ≤ o.length) (hz : z ≤ t.length) : Chain b o t x y z []
  | cons (x y z i j k : Nat) (K : List Tri) (h1 : x ≤ i) (h2 : y ≤ j) (h3 : z ≤ k) (hx : i < b.length) (hy : j < o.length) (hz : k < t.length) (e1 : b[i] = o[j]) (e2 : b[i] = t[k]) (h : Chain b o t (i + 1) (j + 1) (k + 1) K) : Chain b o t x y z ((i, j, k) :: K)
theorem Chain.le {b o t : List Int} {x y z : Nat} {K : List Tri} (h : Chain b o t x y z K) : x ≤ b.length ∧ y ≤ o.length ∧ z ≤ t.length := by
  cases h with
  | nil x y z hx hy hz => exact ⟨hx, hy, hz⟩
  | cons x y z i j k K h1 h2 h3 hx hy hz => exact ⟨by omega, by omega, by omega⟩
theorem Chain.lower {b o t : List Int} {x y z x' y' z' : Nat} {K : List Tri} (h : Chain b o t x y z K) (h1 : x' ≤ x) (h2 : y' ≤ y) (h3 : z' ≤ z) : Chain b o t x' y' z' K := by
  cases h with
  | nil x y z hx hy hz => exact .nil _ _ _ (by omega) (by omega) (by omega)
  | cons x y z i j k K g1 g2 g3 hx hy hz e1 e2 h => exact .cons _ _ _ _ _ _ _ (by omega) (by omega) (by omega) hx hy hz e1 e2 h
/-- What both sides keep: the places. -/
def tri (b o t : List Int) : List Tri := trs (prs b o 0 0) (prs b t 0 0) 0 b.length
theorem kp_prs_get {l m : List Int} {i j : Nat} (h : kp (prs l m 0 0) i = some j) : ∃ (h : i < l.length) (g : j < m.length), l[i] = m[j] := (prs_mem l m 0 0 _ (kp_mem h)).2.2
theorem kp_prs_lt {l m : List Int} {i j i' j' : Nat} (h : kp (prs l m 0 0) i = some j) (h' : kp (prs l m 0 0) i' = some j') (hl : i < i') : j < j' := by
  have h1 := kp_mem h
  have h2 := kp_mem h'
  obtain ⟨n1, g1, e1⟩ := List.getElem_of_mem h1
  obtain ⟨n2, g2, e2⟩ := List.getElem_of_mem h2
  have hp := List.pairwise_iff_getElem.1 (prs_rise l m 0 0)
  rcases Nat.lt_trichotomy n1 n2 with hn | hn | hn
  · have := (hp n1 n2 g1 g2 hn).2
    rw [e1, e2] at this
    exact this
  · subst hn
    rw [e1] at e2
    cases e2
    omega
  · have := (hp n2 n1 g2 g1 hn).1
    rw [e1, e2] at this
    have : i' < i := this
    omega
theorem chain_trs (b o t : List Int) (m : Nat) : ∀ (x y z : Nat), x + m = b.length → y ≤ o.length → z ≤ t.length →
    (∀ i j, x ≤ i → kp (prs b o 0 0) i = some j → y ≤ j) → (∀ i k, x ≤ i → kp (prs b t 0 0) i = some k → z ≤ k) → Chain b o t x y z (trs (prs b o 0 0) (prs b t 0 0) x m) := by
  induction m with
  | zero => intro x y z hx hy hz _ _; exact .nil _ _ _ (by omega) hy hz
  | succ m ih =>
    intro x y z hx hy hz h1 h2
    cases e1 : kp (prs b o 0 0) x with
    | none => rw [trs_none _ _ _ _ (Or.inl e1)]; exact (ih (x + 1) y z (by omega) hy hz (fun i j hi => h1 i j (by omega)) (fun i j hi => h2 i j (by omega))).lower (by omega) (Nat.le_refl _) (Nat.le_refl _)
    | some j =>
      cases e2 : kp (prs b t 0 0) x with
      | none => rw [trs_none _ _ _ _ (Or.inr e2)]; exact (ih (x + 1) y z (by omega) hy hz (fun i j hi => h1 i j (by omega)) (fun i j hi => h2 i j (by omega))).lower (by omega) (Nat.le_refl _) (Nat.le_refl _)
      | some k =>
        rw [trs_some _ _ _ _ _ _ e1 e2]
        obtain ⟨a1, a2, a3⟩ := kp_prs_get e1
        obtain ⟨c1, c2, c3⟩ := kp_prs_get e2
        refine .cons _ _ _ _ _ _ _ (Nat.le_refl _) (h1 _ _ (Nat.le_refl _) e1) (h2 _ _ (Nat.le_refl _) e2) a1 a2 c2 a3 c3 ?_
        refine ih (x + 1) (j + 1) (k + 1) (by omega) (by omega) (by omega) (fun i j' hi hk => ?_) (fun i j' hi hk => ?_)
        · exact kp_prs_lt e1 hk (by omega)
        · exact kp_prs_lt e2 hk (by omega)
theorem chain_tri (b o t : List Int) : Chain b o t 0 0 0 (tri b o t) :=
  chain_trs b o t b.length 0 0 0 (by omega) (by omega) (by omega) (fun _ _ _ _ => Nat.zero_le _) (fun _ _ _ _ => Nat.zero_le _)

/-- What comes of a part. -/
def gp (b o t : List Int) : Option (List Int) := if o = t then some o else if o = b then some t else if t = b then some o else none
/-- What comes of all from (x, y, z) on. -/
def mrg (b o t : List Int) : Nat → Nat → Nat → List Tri → Option (List Int)
  | x, y, z, [] => gp (b.drop x) (o.drop y) (t.drop z)
  | x, y, z, (i, j, k) :: K => (gp (seg b x i) (seg o y j) (seg t z k)).bind fun p => (mrg b o t (i + 1) (j + 1) (k + 1) K).map fun r => p ++ (seg t k (k + 1) ++ r)
theorem gp_nil : gp [] [] [] = some [] := rfl
/-- All of the chunks, and what comes of all. -/
def chunks (b o t : List Int) : List Ch := chs b o t 0 0 0 0 (tri b o t)
def merge (b o t : List Int) : Option (List Int) := mrg b o t 0 0 0 (tri b o t)
end Go.Proofs.Ytlkgdfeeepiidaa.Wv
namespace Go.Proofs.Ytlkgdfeeepiidaa.Lcs
open Go.RowKit Go.Proofs.Ytlkgdfeeepiidaa.All Go.Proofs.Ytlkgdfeeepiidaa.XLcs Go.Proofs.YtlkgdfeeepiidaaW.PrintWords Go.Proofs.YtlkgdfeeepiidaaW.PrintLast
theorem wrap_in {x : Int} (h0 : -9223372036854775808 ≤ x) (h1 : x ≤ 9223372036854775807) : wrap64 x = x := by unfold wrap64; omega
theorem Pairs_is (a b : List Int) (ha : a.length ≤ 4000000) (hb : b.length ≤ 4000000) : lcs_Pairs.f a b = some ((prs a b 0 0).map P55) := by
  unfold lcs_Pairs.f; rw [if_pos ⟨ha, hb⟩]
theorem rd_nat (l : List Int) (i : Nat) (h : i < l.length) : rd l (i : Int) = l[i] := by unfold rd; simp [h]
theorem rd_P (ps : List (Nat × Nat)) (j : Nat) (h : j < ps.length) : rd_T55 (ps.map P55) (j : Int) = P55 ps[j] := by unfold rd_T55; simp [h]
theorem P55_f0 (p : Nat × Nat) : (P55 p).f0 = (p.1 : Int) := rfl
theorem P55_f1 (p : Nat × Nat) : (P55 p).f1 = (p.2 : Int) := rfl
end Go.Proofs.Ytlkgdfeeepiidaa.Lcs
namespace Go.Proofs.Ytlkgdfeeepiidaa.Wv
open Go.RowKit Go.Proofs.Ytlkgdfeeepiidaa.All Go.Proofs.Ytlkgdfeeepiidaa.Lcs Go.Proofs.Ytlkgdfeeepiidaa.XLcs Go.Proofs.YtlkgdfeeepiidaaW.PrintWords Go.Proofs.YtlkgdfeeepiidaaW.PrintLast
theorem wsum (x n : Nat) (h : x + n < 1000000000000) : wrap64 ((x : Int) + (n : Int)) = ((x + n : Nat) : Int) := by rw [wrap_in (by omega) (by omega)]; omega
theorem wone (n : Nat) (h : n < 1000000000000) : wrap64 ((n : Int) + 1) = ((n + 1 : Nat) : Int) := by rw [wrap_in (by omega) (by omega)]; omega

/-- Where a side keeps each place, as numbers. -/
def kvs (ps : List (Nat × Nat)) (n : Nat) : List Int := (List.range n).map (kv ps)
theorem kvs_length (ps : List (Nat × Nat)) (n : Nat) : (kvs ps n).length = n := by simp [kvs]
theorem kvs_get (ps : List (Nat × Nat)) (n i : Nat) (h : i < n) : rd (kvs ps n) (i : Int) = kv ps i := by
  rw [rd_nat _ _ (by rw [kvs_length]; exact h)]; simp [kvs]
theorem kvs_set (ps : List (Nat × Nat)) (p : Nat × Nat) (n : Nat) (h : ∀ q ∈ ps, q.1 < p.1) : (kvs ps n).set p.1 (p.2 : Int) = kvs (ps ++ [p]) n := by
  apply List.ext_getElem
  · simp [kvs]
  · intro i h1 h2
    simp [kvs] at h1 h2
    simp only [List.getElem_set, kvs, List.getElem_map, List.getElem_range]
    by_cases hi : p.1 = i
    · subst hi
      have hn : ps.find? (fun q => q.1 == p.1) = none := by
        rw [List.find?_eq_none]
        intro q hq
        have := h q hq
        simp; omega
      simp [kv, kp, List.find?_append, hn]
    · rw [if_neg hi]
      unfold kv kp
      rw [List.find?_append]
      simp [hi]
def neg1 (i n : Nat) : List Int := (List.range n).map (fun j => if j < i then -1 else 0)
theorem neg1_length (i n : Nat) : (neg1 i n).length = n := by simp [neg1]
theorem neg1_zero (n : Nat) : List.replicate n 0 = neg1 0 n := by
  apply List.ext_getElem
  · simp [neg1]
  · intro j h1 h2; simp [neg1]
theorem neg1_set (i n : Nat) : (neg1 i n).set i (-1) = neg1 (i + 1) n := by
  apply List.ext_getElem
  · simp [neg1]
  · intro j h1 h2
    simp only [List.getElem_set, neg1, List.getElem_map, List.getElem_range]
    by_cases h : i = j
    · rw [if_pos h, if_pos (by omega)]
    · rw [if_neg h]
      by_cases h' : j < i
      · rw [if_pos h', if_pos (by omega)]
      · rw [if_neg h', if_neg (by omega)]
theorem neg1_all (n : Nat) : neg1 n n = kvs [] n := by
  apply List.ext_getElem
  · simp [neg1, kvs]
  · intro j h1 h2
    simp [neg1] at h1
    simp [neg1, kvs, kv, kp, h1]
theorem kept_l1 (ps : List (Nat × Nat)) (n : Nat) (hp : ps.Pairwise (fun p q => p.1 < q.1 ∧ p.2 < q.2)) (hb : ∀ p ∈ ps, p.1 < n) (hl : ps.length ≤ 100000) (d : Nat) : ∀ (q : Nat), q + d = ps.length →
    Ev (fun k => weave_kept.l1 k (kvs (ps.take q) n) (ps.map P55) (ps.length : Int) (q : Int)) (kvs ps n) := by
  induction d with
  | zero =>
    intro q hq
    refine ⟨1, fun k hk => ?_⟩
    obtain ⟨m, rfl⟩ : ∃ m, k = m + 1 := ⟨k - 1, by omega⟩
    show weave_kept.l1 (m + 1) _ _ _ _ = _
    have z : ¬ (q : Int) < (ps.length : Int) := by omega
    rw [weave_kept.l1, if_neg z, List.take_of_length_le (by omega)]
  | succ d ih =>
    intro q hq
    have hql : q < ps.length := by omega
    have nx := ih (q + 1) (by omega)
    have z1 : (q : Int) < (ps.length : Int) := by omega
    have z2 : (0 : Int) ≤ (q : Int) := by omega
    have z3 : (q : Int) < ((ps.map P55).length : Int) := by rw [List.length_map]; exact z1
    have z4 : (0 : Int) ≤ (ps[q].1 : Int) := by omega
    have hb' := hb ps[q] (List.getElem_mem hql)
    have z5 : (ps[q].1 : Int) < ((kvs (ps.take q) n).length : Int) := by rw [kvs_length]; omega
    have hs := kvs_set (ps.take q) ps[q] n (fun r hr => by
      obtain ⟨j, hj, rfl⟩ := List.getElem_of_mem hr
      rw [List.length_take] at hj
      rw [List.getElem_take]
      exact (List.pairwise_iff_getElem.1 hp j q (by omega) hql (by omega)).1)
    rw [← List.take_succ_eq_append_getElem hql] at hs
    refine Ev.step (fun k => ?_) nx
    rw [weave_kept.l1, if_pos z1, if_pos z2, if_pos z3, rd_P ps q hql, P55_f0, P55_f1, if_pos z4, if_pos z5, Int.toNat_natCast, hs, wone q (by omega)]
theorem kept_ev (b o : List Int) (hb : b.length ≤ 100000) (ho : o.length ≤ 100000) : Ev (fun k => weave_kept.f k b o) (kvs (prs b o 0 0) b.length) := by
  have hl0 : ∀ (d i : Nat), i + d = b.length → Ev (fun k => weave_kept.l0 k b o (neg1 i b.length) (b.length : Int) (i : Int)) (kvs (prs b o 0 0) b.length) := by
    intro d
    induction d with
    | zero =>
      intro i hi
      have hi : i = b.length := by omega
      subst hi
      have hlen := prs_length0 b o
      have hle := lcs_le_left b o
      have h1 := kept_l1 (prs b o 0 0) b.length (prs_rise b o 0 0) (fun p hp => (prs_mem b o 0 0 p hp).2.2.1) (by omega) (prs b o 0 0).length 0 (by omega)
      rw [List.take_zero, ← neg1_all] at h1
      refine Ev.step (f := fun k => weave_kept.l1 k (neg1 b.length b.length) ((prs b o 0 0).map P55) ((prs b o 0 0).length : Int) ((0 : Nat) : Int)) (fun k => ?_) h1
      have z : ¬ (b.length : Int) < (b.length : Int) := by omega
      rw [weave_kept.l0, if_neg z, Pairs_is b o (by omega) (by omega), Option.bind_some, List.length_map]
      rfl
    | succ d ih =>
      intro i hi
      have z1 : (i : Int) < (b.length : Int) := by omega
      have z2 : (0 : Int) ≤ (i : Int) := by omega
      have z3 : (i : Int) < ((neg1 i b.length).length : Int) := by rw [neg1_length]; exact z1
      refine Ev.step (fun k => ?_) (ih (i + 1) (by omega))
      rw [weave_kept.l0, if_pos z1, if_pos z2, if_pos z3, Int.toNat_natCast, neg1_set, wone i (by omega)]
  have h := hl0 b.length 0 (by omega)
  refine Ev.congr (fun k => ?_) h
  have z1 : (0 : Int) ≤ (b.length : Int) := by omega
  have z2 : b.length ≤ 35184372088832 := by omega
  rw [weave_kept.f, if_pos z1, Int.toNat_natCast, if_pos z2, Option.bind_some, List.length_replicate, neg1_zero]
  rfl

theorem runl_gt (K : List Tri) (x y z : Nat) (h : ∀ p ∈ K, x < p.1) : runl x y z K = 0 := by
  cases K with
  | nil => rfl
  | cons p K =>
    obtain ⟨i, j, k⟩ := p
    have : x < i := h (i, j, k) (List.mem_cons_self ..)
    rw [runl, if_neg (by omega)]
theorem runl_trs (P Q : List (Nat × Nat)) (x y z m : Nat) : runl x y z (trs P Q x (m + 1)) = if kp P x = some y ∧ kp Q x = some z then runl (x + 1) (y + 1) (z + 1) (trs P Q (x + 1) m) + 1 else 0 := by
  have hgt : ∀ p ∈ trs P Q (x + 1) m, x < p.1 := fun p hp => by have := (trs_mem P Q m (x + 1) p hp).1; omega
  cases e1 : kp P x with
  | none => rw [trs_none _ _ _ _ (Or.inl e1), runl_gt _ _ _ _ hgt, if_neg (by simp)]
  | some j =>
    cases e2 : kp Q x with
    | none => rw [trs_none _ _ _ _ (Or.inr e2), runl_gt _ _ _ _ hgt, if_neg (by simp)]
    | some k =>
      rw [trs_some _ _ _ _ _ _ e1 e2, runl]
      by_cases h : j = y ∧ k = z
      · obtain ⟨rfl, rfl⟩ := h; simp
      · rw [if_neg (fun hh => h hh.2), if_neg (fun hh => h ⟨Option.some.inj hh.1, Option.some.inj hh.2⟩)]
theorem runl_le (P Q : List (Nat × Nat)) (m : Nat) : ∀ (x y z : Nat), runl x y z (trs P Q x m) ≤ m := by
  induction m with
  | zero => intro x y z; simp [trs, runl]
  | succ m ih => intro x y z; rw [runl_trs]; split <;> (have := ih (x + 1) (y + 1) (z + 1); omega)
theorem trs_drop (P Q : List (Nat × Nat)) (m : Nat) : ∀ (x y z : Nat), (trs P Q x m).drop (runl x y z (trs P Q x m)) = trs P Q (x + runl x y z (trs P Q x m)) (m - runl x y z (trs P Q x m)) := by
  induction m with
  | zero => intro x y z; simp [trs, runl]
  | succ m ih =>
    intro x y z
    rw [runl_trs]
    by_cases h : kp P x = some y ∧ kp Q x = some z
    · rw [if_pos h, trs_some _ _ _ _ _ _ h.1 h.2, List.drop_succ_cons, ih (x + 1) (y + 1) (z + 1)]
      have e1 : x + (runl (x + 1) (y + 1) (z + 1) (trs P Q (x + 1) m) + 1) = x + 1 + runl (x + 1) (y + 1) (z + 1) (trs P Q (x + 1) m) := by omega
      have e2 : m + 1 - (runl (x + 1) (y + 1) (z + 1) (trs P Q (x + 1) m) + 1) = m - runl (x + 1) (y + 1) (z + 1) (trs P Q (x + 1) m) := by omega
      rw [e1, e2]
    · rw [if_neg h]; rfl
theorem trs_head (P Q : List (Nat × Nat)) (m : Nat) : ∀ (x i j k : Nat) (K : List Tri), trs P Q x m = (i, j, k) :: K → trs P Q i (x + m - i) = (i, j, k) :: K := by
  induction m with
  | zero => intro x i j k K h; cases h
  | succ m ih =>
    intro x i j k K h
    cases e1 : kp P x with
    | none =>
      rw [trs_none _ _ _ _ (Or.inl e1)] at h
      have := ih _ _ _ _ _ h
      rw [show x + 1 + m - i = x + (m + 1) - i by omega] at this
      exact this
    | some j' =>
      cases e2 : kp Q x with
      | none =>
        rw [trs_none _ _ _ _ (Or.inr e2)] at h
        have := ih _ _ _ _ _ h
        rw [show x + 1 + m - i = x + (m + 1) - i by omega] at this
        exact this
      | some k' =>
        have h0 := h
        rw [trs_some _ _ _ _ _ _ e1 e2] at h
        injection h with h1 h2
        injection h1 with h1 h3
        subst h1
        rw [show x + (m + 1) - x = m + 1 by omega]
        exact h0
theorem kv_eq (ps : List (Nat × Nat)) (i y : Nat) : kv ps i = (y : Int) ↔ kp ps i = some y := by
  unfold kv
  cases kp ps i with
  | none => simp
  | some j => simp; omega
theorem kv_some {ps : List (Nat × Nat)} {i j : Nat} (h : kp ps i = some j) : kv ps i = (j : Int) := by unfold kv; rw [h]
theorem kv_none {ps : List (Nat × Nat)} {i : Nat} (h : kp ps i = none) : kv ps i = -1 := by unfold kv; rw [h]
theorem run_l0 (P Q : List (Nat × Nat)) (b o t : List Int) (x y z : Nat) (hb : b.length ≤ 100000) (hy : y ≤ 100000) (hz : z ≤ 100000) (m : Nat) : ∀ n : Nat, x + n + m = b.length →
    Ev (fun k => weave_weaver_run.l0 k (n : Int) b o t (kvs P b.length) (kvs Q b.length) (x : Int) (y : Int) (z : Int)) (((n + runl (x + n) (y + n) (z + n) (trs P Q (x + n) m) : Nat) : Int), (x : Int), (y : Int), (z : Int)) := by
  induction m with
  | zero =>
    intro n hn
    refine ⟨1, fun k hk => ?_⟩
    obtain ⟨q, rfl⟩ : ∃ q, k = q + 1 := ⟨k - 1, by omega⟩
    show weave_weaver_run.l0 (q + 1) _ _ _ _ _ _ _ _ _ = _
    have z1 : ¬ ((x + n : Nat) : Int) < (b.length : Int) := by omega
    rw [weave_weaver_run.l0, wsum x n (by omega), if_neg z1]
    simp [trs, runl]
  | succ m ih =>
    intro n hn
    have nx := ih (n + 1) (by omega)
    have z1 : ((x + n : Nat) : Int) < (b.length : Int) := by omega
    have z2 : (0 : Int) ≤ ((x + n : Nat) : Int) := by omega
    have z3 : ((x + n : Nat) : Int) < ((kvs P b.length).length : Int) := by rw [kvs_length]; exact z1
    have z4 : ((x + n : Nat) : Int) < ((kvs Q b.length).length : Int) := by rw [kvs_length]; exact z1
    have u0 : x + n < b.length := by omega
    have u1 : x + n < 1000000000000 := by omega
    have u2 : y + n < 1000000000000 := by omega
    have u3 : z + n < 1000000000000 := by omega
    have u4 : n < 1000000000000 := by omega
    have g1 := kvs_get P b.length (x + n) u0
    have g2 := kvs_get Q b.length (x + n) u0
    have hr := runl_trs P Q (x + n) (y + n) (z + n) m
    have w1 := wsum x n u1
    have w2 := wsum y n u2
    have w3 := wsum z n u3
    have w4 := wone n u4
    by_cases h1 : kp P (x + n) = some (y + n)
    · by_cases h2 : kp Q (x + n) = some (z + n)
      · rw [if_pos ⟨h1, h2⟩] at hr
        have e : n + runl (x + n) (y + n) (z + n) (trs P Q (x + n) (m + 1)) = n + 1 + runl (x + (n + 1)) (y + (n + 1)) (z + (n + 1)) (trs P Q (x + (n + 1)) m) := by
          rw [hr, Nat.add_assoc n 1, Nat.add_comm 1]; rfl
        rw [e]
        refine Ev.step (fun k => ?_) nx
        rw [weave_weaver_run.l0, w1, w2, w3, w4, if_pos z1, if_pos z2, if_pos z3, g1, if_pos (kv_some h1), if_pos z4, g2, if_pos (kv_some h2)]
      · rw [if_neg (fun h => h2 h.2)] at hr
        rw [hr]
        refine ⟨1, fun k hk => ?_⟩
        obtain ⟨q, rfl⟩ : ∃ q, k = q + 1 := ⟨k - 1, (Nat.sub_add_cancel hk).symm⟩
        show weave_weaver_run.l0 (q + 1) _ _ _ _ _ _ _ _ _ = _
        rw [weave_weaver_run.l0, w1, w2, w3, w4, if_pos z1, if_pos z2, if_pos z3, g1, if_pos (kv_some h1), if_pos z4, g2, if_neg (fun h => h2 ((kv_eq _ _ _).1 h))]
        rfl
    · rw [if_neg (fun h => h1 h.1)] at hr
      rw [hr]
      refine ⟨1, fun k hk => ?_⟩
      obtain ⟨q, rfl⟩ : ∃ q, k = q + 1 := ⟨k - 1, (Nat.sub_add_cancel hk).symm⟩
      show weave_weaver_run.l0 (q + 1) _ _ _ _ _ _ _ _ _ = _
      rw [weave_weaver_run.l0, w1, w2, w3, w4, if_pos z1, if_pos z2, if_pos z3, g1, if_neg (fun h => h1 ((kv_eq _ _ _).1 h))]
      rfl
/-- The next place that both keep, or the ends. -/
def ahead (b o t : List Int) : List Tri → Int × Int × Int
  | [] => ((b.length : Int), (o.length : Int), (t.length : Int))
  | (i, j, k) :: _ => ((i : Int), (j : Int), (k : Int))
theorem next_l0 (P Q : List (Nat × Nat)) (b o t : List Int) (x y z : Int) (hb : b.length ≤ 100000) (m : Nat) : ∀ i : Nat, i + m = b.length →
    Ev (fun k => weave_weaver_next.l0 k (i : Int) b o t (kvs P b.length) (kvs Q b.length) x y z) ((ahead b o t (trs P Q i m)).1, (ahead b o t (trs P Q i m)).2.1, (ahead b o t (trs P Q i m)).2.2, x, y, z) := by
  induction m with
  | zero =>
    intro i hi
    refine ⟨1, fun k hk => ?_⟩
    obtain ⟨q, rfl⟩ : ∃ q, k = q + 1 := ⟨k - 1, by omega⟩
    show weave_weaver_next.l0 (q + 1) _ _ _ _ _ _ _ _ _ = _
    have z1 : ¬ (i : Int) < (b.length : Int) := by omega
    rw [weave_weaver_next.l0, if_neg z1]
    rfl
  | succ m ih =>
    intro i hi
    have nx := ih (i + 1) (by omega)
    have z1 : (i : Int) < (b.length : Int) := by omega
    have z2 : (0 : Int) ≤ (i : Int) := by omega
    have z3 : (i : Int) < ((kvs P b.length).length : Int) := by rw [kvs_length]; exact z1
    have z4 : (i : Int) < ((kvs Q b.length).length : Int) := by rw [kvs_length]; exact z1
    have u0 : i < b.length := by omega
    have u1 : i < 1000000000000 := by omega
    have zn : ¬ (-1 : Int) ≥ 0 := by omega
    have zj : ∀ j : Nat, (j : Int) ≥ 0 := fun j => by omega
    have g1 := kvs_get P b.length i u0
    have g2 := kvs_get Q b.length i u0
    have w4 := wone i u1
    cases e1 : kp P i with
    | none =>
      rw [trs_none _ _ _ _ (Or.inl e1)]
      refine Ev.step (fun k => ?_) nx
      rw [weave_weaver_next.l0, if_pos z1, if_pos z2, if_pos z3, g1, kv_none e1, if_neg zn, w4]
    | some j =>
      cases e2 : kp Q i with
      | none =>
        rw [trs_none _ _ _ _ (Or.inr e2)]
        refine Ev.step (fun k => ?_) nx
        rw [weave_weaver_next.l0, if_pos z1, if_pos z2, if_pos z3, g1, kv_some e1, if_pos (zj j), if_pos z4, g2, kv_none e2, if_neg zn, w4]
      | some k =>
        rw [trs_some _ _ _ _ _ _ e1 e2]
        refine ⟨1, fun q hk => ?_⟩
        obtain ⟨q, rfl⟩ : ∃ q', q = q' + 1 := ⟨q - 1, (Nat.sub_add_cancel hk).symm⟩
        show weave_weaver_next.l0 (q + 1) _ _ _ _ _ _ _ _ _ = _
        rw [weave_weaver_next.l0, if_pos z1, if_pos z2, if_pos z3, g1, kv_some e1, if_pos (zj j), if_pos z4, g2, kv_some e2, if_pos (zj k)]
        rfl
/-- A chunk as the program has it. -/
def C75 (c : Ch) : S75 := ⟨⟨(c.x0 : Int), (c.x1 : Int)⟩, ⟨(c.y0 : Int), (c.y1 : Int)⟩, ⟨(c.z0 : Int), (c.z1 : Int)⟩, c.c⟩

theorem chain_drop {b o t : List Int} {K : List Tri} : ∀ {x y z : Nat}, Chain b o t x y z K → Chain b o t (x + runl x y z K) (y + runl x y z K) (z + runl x y z K) (K.drop (runl x y z K)) := by
  induction K with
  | nil => intro x y z h; simpa [runl] using h
  | cons p K ih =>
    obtain ⟨i, j, k⟩ := p
    intro x y z h
    rw [runl]
    by_cases hh : i = x ∧ j = y ∧ k = z
    · rw [if_pos hh, List.drop_succ_cons]
      obtain ⟨rfl, rfl, rfl⟩ := hh
      cases h with
      | cons _ _ _ _ _ _ _ h1 h2 h3 hx hy hz e1 e2 hc =>
      have := ih hc
      rw [show i + (runl (i + 1) (j + 1) (k + 1) K + 1) = i + 1 + runl (i + 1) (j + 1) (k + 1) K by omega, show j + (runl (i + 1) (j + 1) (k + 1) K + 1) = j + 1 + runl (i + 1) (j + 1) (k + 1) K by omega, show k + (runl (i + 1) (j + 1) (k + 1) K + 1) = k + 1 + runl (i + 1) (j + 1) (k + 1) K by omega]
      exact this
    · rw [if_neg hh]; exact h
/-- A round, behind the run that is ahead. -/
def afterNext (b o t bo bt : List Int) (out : List S75) (k : Nat) (p : Int × Int × Int × Int × Int × Int) : Option (List S75) :=
  if (0 ≤ p.2.2.2.1 ∧ p.2.2.2.1 ≤ p.1 ∧ p.1 ≤ (b.length : Int)) ∧ (0 ≤ p.2.2.2.2.1 ∧ p.2.2.2.2.1 ≤ p.2.1 ∧ p.2.1 ≤ (o.length : Int)) ∧ (0 ≤ p.2.2.2.2.2 ∧ p.2.2.2.2.2 ≤ p.2.2.1 ∧ p.2.2.1 ≤ (t.length : Int)) then
    weave_Chunks.l0 k b o t bo bt p.1 p.2.1 p.2.2.1 (out ++ [⟨⟨p.2.2.2.1, p.1⟩, ⟨p.2.2.2.2.1, p.2.1⟩, ⟨p.2.2.2.2.2, p.2.2.1⟩, XWv.outc (XWv.part b p.2.2.2.1.toNat p.1.toNat) (XWv.part o p.2.2.2.2.1.toNat p.2.1.toNat) (XWv.part t p.2.2.2.2.2.toNat p.2.2.1.toNat)⟩])
  else none
def afterRun (b o t bo bt : List Int) (out : List S75) (k : Nat) (q : Int × Int × Int × Int) : Option (List S75) :=
  if 0 < q.1 then weave_Chunks.l0 k b o t bo bt (wrap64 (q.2.1 + q.1)) (wrap64 (q.2.2.1 + q.1)) (wrap64 (q.2.2.2 + q.1)) (out ++ [⟨⟨q.2.1, wrap64 (q.2.1 + q.1)⟩, ⟨q.2.2.1, wrap64 (q.2.2.1 + q.1)⟩, ⟨q.2.2.2, wrap64 (q.2.2.2 + q.1)⟩, 1⟩])
  else (weave_weaver_next.f k b o t bo bt q.2.1 q.2.2.1 q.2.2.2).bind (afterNext b o t bo bt out k)
theorem l0_round (b o t bo bt : List Int) (x y z : Int) (out : List S75) (c1 : x < (b.length : Int) ∨ y < (o.length : Int) ∨ z < (t.length : Int)) (c2 : out.length < 1000000) (k : Nat) :
    weave_Chunks.l0 (k + 1) b o t bo bt x y z out = (weave_weaver_run.f k b o t bo bt x y z).bind (afterRun b o t bo bt out k) := by
  rw [weave_Chunks.l0, if_pos c1, if_pos c2]
  rfl
theorem loop_ev (b o t : List Int) (hb : b.length ≤ 100000) (ho : o.length ≤ 100000) (ht : t.length ≤ 100000) (d : Nat) : ∀ (x y z : Nat) (out : List S75), (b.length - x) + (o.length - y) + (t.length - z) = d → out.length ≤ x + y + z →
    Chain b o t x y z (trs (prs b o 0 0) (prs b t 0 0) x (b.length - x)) →
    Ev (fun k => weave_Chunks.l0 k b o t (kvs (prs b o 0 0) b.length) (kvs (prs b t 0 0) b.length) (x : Int) (y : Int) (z : Int) out) (out ++ (chs b o t x y z 0 (trs (prs b o 0 0) (prs b t 0 0) x (b.length - x))).map C75) := by
  induction d using Nat.strongRecOn with
  | ind d ih =>
    intro x y z out hd hout hc
    obtain ⟨lx, ly, lz⟩ := hc.le
    by_cases hin : x < b.length ∨ y < o.length ∨ z < t.length
    · have c1 : (x : Int) < (b.length : Int) ∨ (y : Int) < (o.length : Int) ∨ (z : Int) < (t.length : Int) := by omega
      have c2 : out.length < 1000000 := by omega
      have hrun := run_l0 (prs b o 0 0) (prs b t 0 0) b o t x y z hb (by omega) (by omega) (b.length - x) 0 (by omega)
      simp only [Nat.add_zero, Nat.zero_add] at hrun
      have hle := runl_le (prs b o 0 0) (prs b t 0 0) (b.length - x) x y z
      have hdrop := trs_drop (prs b o 0 0) (prs b t 0 0) (b.length - x) x y z
      have hcd := chain_drop hc
      by_cases h0 : 0 < runl x y z (trs (prs b o 0 0) (prs b t 0 0) x (b.length - x))
      · rw [chs_same _ _ _ _ _ _ _ h0]
        rw [hdrop] at hcd ⊢
        generalize hR : runl x y z (trs (prs b o 0 0) (prs b t 0 0) x (b.length - x)) = R at *
        clear hR hdrop
        rw [show b.length - x - R = b.length - (x + R) by omega] at hcd ⊢
        obtain ⟨mx', my, mz⟩ := hcd.le
        have nx := ih ((b.length - (x + R)) + (o.length - (y + R)) + (t.length - (z + R))) (by omega) (x + R) (y + R) (z + R) (out ++ [C75 ⟨x, x + R, y, y + R, z, z + R, 1⟩]) rfl (by simp; omega) hcd
        rw [List.map_cons, ← List.singleton_append, ← List.append_assoc]
        have c3 : (0 : Int) < (R : Int) := by omega
        have u1 : x + R < 1000000000000 := by omega
        have u2 : y + R < 1000000000000 := by omega
        have u3 : z + R < 1000000000000 := by omega
        refine Ev.step (l0_round b o t _ _ _ _ _ out c1 c2) (Ev.bind hrun (Ev.congr (fun k => ?_) nx))
        · show (if (0 : Int) < (R : Int) then weave_Chunks.l0 k b o t _ _ (wrap64 ((x : Int) + (R : Int))) (wrap64 ((y : Int) + (R : Int))) (wrap64 ((z : Int) + (R : Int))) (out ++ [⟨⟨(x : Int), wrap64 ((x : Int) + (R : Int))⟩, ⟨(y : Int), wrap64 ((y : Int) + (R : Int))⟩, ⟨(z : Int), wrap64 ((z : Int) + (R : Int))⟩, 1⟩]) else _) = _
          rw [if_pos c3, wsum x R u1, wsum y R u2, wsum z R u3]
          rfl
      · have h0' : runl x y z (trs (prs b o 0 0) (prs b t 0 0) x (b.length - x)) = 0 := by omega
        rw [h0'] at hrun
        clear hdrop hcd hle h0
        have hnext := next_l0 (prs b o 0 0) (prs b t 0 0) b o t (x : Int) (y : Int) (z : Int) hb (b.length - x) x (by omega)
        have key : ∀ (i j k : Nat) (K : List Tri), ahead b o t (trs (prs b o 0 0) (prs b t 0 0) x (b.length - x)) = ((i : Int), (j : Int), (k : Int)) → x ≤ i → i ≤ b.length → y ≤ j → j ≤ o.length → z ≤ k → k ≤ t.length → x + y + z < i + j + k →
            Chain b o t i j k (trs (prs b o 0 0) (prs b t 0 0) i (b.length - i)) → chs b o t x y z 0 (trs (prs b o 0 0) (prs b t 0 0) x (b.length - x)) = gap b o t x i y j z k :: chs b o t i j k 0 (trs (prs b o 0 0) (prs b t 0 0) i (b.length - i)) →
            Ev (fun k => weave_Chunks.l0 k b o t (kvs (prs b o 0 0) b.length) (kvs (prs b t 0 0) b.length) (x : Int) (y : Int) (z : Int) out) (out ++ (chs b o t x y z 0 (trs (prs b o 0 0) (prs b t 0 0) x (b.length - x))).map C75) := by
          intro i j k K hah hi hi' hj hj' hk hk' hlt hci hch
          rw [hch]
          rw [hah] at hnext
          have nx := ih ((b.length - i) + (o.length - j) + (t.length - k)) (by omega) i j k (out ++ [C75 (gap b o t x i y j z k)]) rfl (by simp; omega) hci
          rw [List.map_cons, ← List.singleton_append, ← List.append_assoc]
          have c3 : ¬ (0 : Int) < ((0 : Nat) : Int) := by omega
          have c4 : (0 ≤ (x : Int) ∧ (x : Int) ≤ (i : Int) ∧ (i : Int) ≤ (b.length : Int)) ∧ (0 ≤ (y : Int) ∧ (y : Int) ≤ (j : Int) ∧ (j : Int) ≤ (o.length : Int)) ∧ (0 ≤ (z : Int) ∧ (z : Int) ≤ (k : Int) ∧ (k : Int) ≤ (t.length : Int)) := by omega
          refine Ev.step (l0_round b o t _ _ _ _ _ out c1 c2) (Ev.bind hrun (Ev.congr (f := fun k => (weave_weaver_next.f k b o t (kvs (prs b o 0 0) b.length) (kvs (prs b t 0 0) b.length) (x : Int) (y : Int) (z : Int)).bind (afterNext b o t _ _ out k)) (fun k => if_neg c3) (Ev.bind hnext (Ev.congr (fun q => ?_) nx))))
          exact (if_pos c4).trans rfl
        cases hT : trs (prs b o 0 0) (prs b t 0 0) x (b.length - x) with
        | nil =>
          rw [← hT]
          refine key b.length o.length t.length [] (by rw [hT]; rfl) lx (Nat.le_refl _) ly (Nat.le_refl _) lz (Nat.le_refl _) (by omega) ?_ ?_
          · rw [Nat.sub_self]; exact .nil _ _ _ (Nat.le_refl _) (Nat.le_refl _) (Nat.le_refl _)
          · rw [hT, Nat.sub_self, chs_last _ _ _ _ _ _ hin]
            show _ = _ :: chs b o t b.length o.length t.length 0 []
            rw [chs_end]
        | cons p K =>
          obtain ⟨i, j, k⟩ := p
          rw [← hT]
          have hh := trs_head _ _ _ _ _ _ _ _ hT
          rw [show x + (b.length - x) - i = b.length - i by omega] at hh
          have hc2 := hc
          rw [hT] at hc2 h0'
          cases hc2 with
          | cons _ _ _ _ _ _ _ h1 h2 h3 hx hy hz e1 e2 hcc =>
          refine key i j k K (by rw [hT]; rfl) h1 (by omega) h2 (by omega) h3 (by omega) ?_ ?_ ?_
          · rw [runl] at h0'
            by_cases hh : i = x ∧ j = y ∧ k = z
            · rw [if_pos hh] at h0'; omega
            · omega
          · rw [hh]; exact .cons _ _ _ _ _ _ _ (Nat.le_refl _) (Nat.le_refl _) (Nat.le_refl _) hx hy hz e1 e2 hcc
          · rw [hT, hh]; exact chs_next _ _ _ _ _ _ _ _ _ _ h0'
    · have hx : x = b.length := by omega
      have hy : y = o.length := by omega
      have hz : z = t.length := by omega
      have c1 : ¬ ((x : Int) < (b.length : Int) ∨ (y : Int) < (o.length : Int) ∨ (z : Int) < (t.length : Int)) := by omega
      refine ⟨1, fun k hk => ?_⟩
      obtain ⟨q, rfl⟩ : ∃ q, k = q + 1 := ⟨k - 1, (Nat.sub_add_cancel hk).symm⟩
      show weave_Chunks.l0 (q + 1) _ _ _ _ _ _ _ _ _ = _
      rw [weave_Chunks.l0, if_neg c1]
      subst hx; subst hy; subst hz
      rw [Nat.sub_self]
      show _ = some (out ++ (chs b o t b.length o.length t.length 0 []).map C75)
      rw [chs_end, List.map_nil, List.append_nil]
theorem Chunks_ev (b o t : List Int) (hb : b.length ≤ 100000) (ho : o.length ≤ 100000) (ht : t.length ≤ 100000) : Ev (fun k => weave_Chunks.f k b o t) ((chunks b o t).map C75) := by
  have h := loop_ev b o t hb ho ht _ 0 0 0 [] rfl (Nat.le_refl _) (chain_tri b o t)
  exact Ev.bind (kept_ev b o hb ho) (Ev.bind (kept_ev b t hb ht) h)
end Go.Proofs.Ytlkgdfeeepiidaa.Wv
namespace Go.Proofs.Ytlkgdfeeepiidaa.Wv
open Go.RowKit Go.Proofs.Ytlkgdfeeepiidaa.All Go.Proofs.Ytlkgdfeeepiidaa.Lcs Go.Proofs.Ytlkgdfeeepiidaa.XLcs Go.Proofs.YtlkgdfeeepiidaaW.PrintWords Go.Proofs.YtlkgdfeeepiidaaW.PrintLast
theorem trs_length (P Q : List (Nat × Nat)) (m : Nat) : ∀ x, (trs P Q x m).length ≤ m := by
  induction m with
  | zero => intro x; simp [trs]
  | succ m ih =>
    intro x
    rw [trs]
    split
    · simp; exact ih _
    · exact Nat.le_trans (ih _) (Nat.le_succ m)
theorem chs_length (b o t : List Int) (K : List Tri) : ∀ (x y z n : Nat), (chs b o t x y z n K).length ≤ 2 * K.length + 2 := by
  have hs : ∀ x y z n, (same x y z n).length ≤ 1 := by intro x y z n; unfold same; split <;> simp
  induction K with
  | nil =>
    intro x y z n
    rw [chs, List.length_append]
    have := hs x y z n
    split <;> simp <;> omega
  | cons p K ih =>
    obtain ⟨i, j, k⟩ := p
    intro x y z n
    rw [chs]
    split
    · have := ih x y z (n + 1); simp; omega
    · have := hs x y z n
      have := ih i j k 1
      rw [List.length_append, List.length_cons, List.length_cons]
      omega
end Go.Proofs.Ytlkgdfeeepiidaa.Wv
