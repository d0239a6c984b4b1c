/- Plain words on three lists, part by part: the places that both sides keep, the chunks, and what comes of them. No program here. -/
import Derived.Test.YtlkgdfeeepiidaaLcsMath
namespace Go.Proofs.Ytlkgdfeeepiidaa.Wv
open Go.Proofs.Ytlkgdfeeepiidaa.Lcs

/-- The numbers from one place on, up to another. -/
def seg (l : List Int) (f t : Nat) : List Int := (l.take t).drop f
theorem seg_nil (l : List Int) (f : Nat) : seg l f f = [] := by unfold seg; simp
theorem seg_length (l : List Int) (f t : Nat) (h : t ≤ l.length) : (seg l f t).length = t - f := by unfold seg; simp; omega
theorem seg_all (l : List Int) (f : Nat) : seg l f l.length = l.drop f := by unfold seg; simp
theorem seg_one (l : List Int) (f : Nat) (h : f < l.length) : seg l f (f + 1) = [l[f]] := by
  unfold seg
  apply List.ext_getElem
  · simp; omega
  · intro i h1 h2
    simp at h1 h2 ⊢
    have : i = 0 := by omega
    subst this
    simp
theorem seg_drop (l : List Int) (f t : Nat) (h : f ≤ t) : seg l f t ++ l.drop t = l.drop f := by
  unfold seg
  apply List.ext_getElem?
  intro i
  simp only [List.getElem?_append, List.getElem?_drop, List.getElem?_take, List.length_drop, List.length_take]
  by_cases h1 : t ≤ l.length
  · rw [Nat.min_eq_left h1]
    by_cases h2 : i < t - f
    · rw [if_pos h2, if_pos (by omega)]
    · rw [if_neg h2]; congr 1; omega
  · rw [Nat.min_eq_right (by omega)]
    by_cases h2 : i < l.length - f
    · rw [if_pos h2, if_pos (by omega)]
    · rw [if_neg h2, List.getElem?_eq_none (by omega), List.getElem?_eq_none (by omega)]
theorem seg_seg (l : List Int) (f m t : Nat) (h1 : f ≤ m) (h2 : m ≤ t) : seg l f m ++ seg l m t = seg l f t := by
  have := seg_drop (l.take t) f m h1
  unfold seg at this ⊢
  rw [List.take_take, Nat.min_eq_left h2] at this
  exact this

/-- A place that both sides keep, and where. -/
abbrev Tri := Nat × Nat × Nat
/-- A chunk: the ends of its parts, and its outcome. -/
structure Ch where
  x0 : Nat
  x1 : Nat
  y0 : Nat
  y1 : Nat
  z0 : Nat
  z1 : Nat
  c : Int
/-- What comes of a part that isn't a run of stable places. -/
def outc (b o t : List Int) : Int := if (o == t) = true then 4 else if (o == b) = true then 3 else if (t == b) = true then 2 else 5
def same (x y z n : Nat) : List Ch := if n = 0 then [] else [⟨x, x + n, y, y + n, z, z + n, 1⟩]
def gap (b o t : List Int) (x i y j z k : Nat) : Ch := ⟨x, i, y, j, z, k, outc (seg b x i) (seg o y j) (seg t z k)⟩
/-- The chunks: n stable places from (x, y, z) on are gone through. -/
def chs (b o t : List Int) : Nat → Nat → Nat → Nat → List Tri → List Ch
  | x, y, z, n, [] => same x y z n ++ (if x + n < b.length ∨ y + n < o.length ∨ z + n < t.length then [gap b o t (x + n) b.length (y + n) o.length (z + n) t.length] else [])
  | x, y, z, n, (i, j, k) :: K => if i = x + n ∧ j = y + n ∧ k = z + n then chs b o t x y z (n + 1) K else same x y z n ++ gap b o t (x + n) i (y + n) j (z + n) k :: chs b o t i j k 1 K
theorem same_zero (x y z : Nat) : same x y z 0 = [] := rfl
theorem same_pos (x y z n : Nat) (h : 0 < n) : same x y z n = [⟨x, x + n, y, y + n, z, z + n, 1⟩] := if_neg (by omega)
/-- How many stable places are ahead. -/
def runl : Nat → Nat → Nat → List Tri → Nat
  | _, _, _, [] => 0
  | x, y, z, (i, j, k) :: K => if i = x ∧ j = y ∧ k = z then runl (x + 1) (y + 1) (z + 1) K + 1 else 0
theorem chs_run (b o t : List Int) (K : List Tri) : ∀ (x y z n : Nat), chs b o t x y z n K = chs b o t x y z (n + runl (x + n) (y + n) (z + n) K) (K.drop (runl (x + n) (y + n) (z + n) K)) := by
  induction K with
  | nil => intro x y z n; simp [runl]
  | cons p K ih =>
    obtain ⟨i, j, k⟩ := p
    intro x y z n
    rw [chs, runl]
    by_cases h : i = x + n ∧ j = y + n ∧ k = z + n
    · rw [if_pos h, if_pos h, ih]
      rw [List.drop_succ_cons]
      have e : n + (runl (x + n + 1) (y + n + 1) (z + n + 1) K + 1) = n + 1 + runl (x + n + 1) (y + n + 1) (z + n + 1) K := by omega
      rw [e]
      rfl
    · rw [if_neg h, if_neg h]
      simp [chs, h]
theorem runl_drop (K : List Tri) : ∀ (x y z : Nat), runl (x + runl x y z K) (y + runl x y z K) (z + runl x y z K) (K.drop (runl x y z K)) = 0 := by
  induction K with
  | nil => intro x y z; simp [runl]
  | cons p K ih =>
    obtain ⟨i, j, k⟩ := p
    intro x y z
    rw [runl]
    by_cases h : i = x ∧ j = y ∧ k = z
    · rw [if_pos h, List.drop_succ_cons]
      have e1 : x + (runl (x + 1) (y + 1) (z + 1) K + 1) = x + 1 + runl (x + 1) (y + 1) (z + 1) K := by omega
      have e2 : y + (runl (x + 1) (y + 1) (z + 1) K + 1) = y + 1 + runl (x + 1) (y + 1) (z + 1) K := by omega
      have e3 : z + (runl (x + 1) (y + 1) (z + 1) K + 1) = z + 1 + runl (x + 1) (y + 1) (z + 1) K := by omega
      rw [e1, e2, e3]
      exact ih _ _ _
    · rw [if_neg h]
      simp [runl, h]
/-- At the end of a run: the run, and what is behind it. -/
theorem chs_stop (b o t : List Int) (K : List Tri) (x y z n : Nat) (h : runl (x + n) (y + n) (z + n) K = 0) : chs b o t x y z n K = same x y z n ++ chs b o t (x + n) (y + n) (z + n) 0 K := by
  cases K with
  | nil => simp [chs, same]
  | cons p K =>
    obtain ⟨i, j, k⟩ := p
    rw [runl] at h
    by_cases hh : i = x + n ∧ j = y + n ∧ k = z + n
    · rw [if_pos hh] at h; omega
    · rw [chs, if_neg hh, chs, if_neg (by simpa using hh)]
      simp [same]
theorem chs_same (b o t : List Int) (K : List Tri) (x y z : Nat) (h : 0 < runl x y z K) :
    chs b o t x y z 0 K = ⟨x, x + runl x y z K, y, y + runl x y z K, z, z + runl x y z K, 1⟩ :: chs b o t (x + runl x y z K) (y + runl x y z K) (z + runl x y z K) 0 (K.drop (runl x y z K)) := by
  rw [chs_run]
  simp only [Nat.zero_add, Nat.add_zero]
  rw [chs_stop _ _ _ _ _ _ _ _ (runl_drop K x y z), same_pos _ _ _ _ h]
  rfl
theorem chs_next (b o t : List Int) (K : List Tri) (x y z i j k : Nat) (h : runl x y z ((i, j, k) :: K) = 0) :
    chs b o t x y z 0 ((i, j, k) :: K) = gap b o t x i y j z k :: chs b o t i j k 0 ((i, j, k) :: K) := by
  rw [runl] at h
  by_cases hh : i = x ∧ j = y ∧ k = z
  · rw [if_pos hh] at h; omega
  · rw [chs, if_neg (by simpa using hh)]
    simp only [Nat.add_zero, same_zero, List.nil_append]
    rw [chs, if_pos ⟨rfl, rfl, rfl⟩]
theorem chs_last (b o t : List Int) (x y z : Nat) (h : x < b.length ∨ y < o.length ∨ z < t.length) : chs b o t x y z 0 [] = [gap b o t x b.length y o.length z t.length] := by
  simp [chs, same, h]
theorem chs_end (b o t : List Int) : chs b o t b.length o.length t.length 0 [] = [] := by simp [chs, same]

/-- Where a list of pairs keeps a place. -/
def kp (ps : List (Nat × Nat)) (i : Nat) : Option Nat := (ps.find? (fun p => p.1 == i)).map (·.2)
/-- The same as a number: below 0: nowhere. -/
def kv (ps : List (Nat × Nat)) (i : Nat) : Int := match kp ps i with
  | some j => (j : Int)
  | none => -1
/-- From place x on, of m places, those that both keep. -/
def trs (P Q : List (Nat × Nat)) : Nat → Nat → List Tri
  | _, 0 => []
  | x, m + 1 => match kp P x, kp Q x with
    | some j, some k => (x, j, k) :: trs P Q (x + 1) m
    | _, _ => trs P Q (x + 1) m
theorem trs_some (P Q : List (Nat × Nat)) (x m j k : Nat) (h1 : kp P x = some j) (h2 : kp Q x = some k) : trs P Q x (m + 1) = (x, j, k) :: trs P Q (x + 1) m := by rw [trs, h1, h2]
theorem trs_none (P Q : List (Nat × Nat)) (x m : Nat) (h : kp P x = none ∨ kp Q x = none) : trs P Q x (m + 1) = trs P Q (x + 1) m := by
  rw [trs]
  split
  · rename_i h1 h2; rcases h with h | h
    · rw [h] at h1; cases h1
    · rw [h] at h2; cases h2
  · rfl
theorem trs_mem (P Q : List (Nat × Nat)) (m : Nat) : ∀ (x : Nat) (p : Tri), p ∈ trs P Q x m → x ≤ p.1 ∧ p.1 < x + m ∧ kp P p.1 = some p.2.1 ∧ kp Q p.1 = some p.2.2 := by
  induction m with
  | zero => intro x p hp; cases hp
  | succ m ih =>
    intro x p hp
    rw [trs] at hp
    split at hp
    · rename_i j k h1 h2
      rcases List.mem_cons.1 hp with rfl | hp
      · exact ⟨Nat.le_refl _, by show x < x + (m + 1); omega, h1, h2⟩
      · obtain ⟨a, b, c⟩ := ih _ _ hp; exact ⟨by omega, by omega, c⟩
    · obtain ⟨a, b, c⟩ := ih _ _ hp; exact ⟨by omega, by omega, c⟩
theorem kp_mem {ps : List (Nat × Nat)} {i j : Nat} (h : kp ps i = some j) : (i, j) ∈ ps := by
  unfold kp at h
  obtain ⟨p, hp, rfl⟩ := Option.map_eq_some_iff.1 h
  have h1 := List.find?_some hp
  have h2 := List.mem_of_find?_eq_some hp
  have : p.1 = i := by simpa using h1
  rw [← this]
  exact h2
theorem kp_of_mem {ps : List (Nat × Nat)} {i j : Nat} (hs : ps.Pairwise (fun p q => p.1 < q.1 ∧ p.2 < q.2)) (h : (i, j) ∈ ps) : kp ps i = some j := by
  induction hs with
  | nil => cases h
  | @cons a l hr _ ih =>
    unfold kp
    rcases List.mem_cons.1 h with rfl | h
    · simp
    · have hlt : a.1 < i := (hr _ h).1
      rw [List.find?_cons_of_neg (by simp; omega)]
      exact ih h
theorem kp_none {ps : List (Nat × Nat)} {i : Nat} (h : ∀ j, (i, j) ∉ ps) : kp ps i = none := by
  cases hk : kp ps i with
  | none => rfl
  | some j => exact absurd (kp_mem hk) (h j)

/-- The places go up, from (x, y, z) on, within the lists, and the same number stands there. -/
inductive Chain (b o t : List Int) : Nat → Nat → Nat → List Tri → Prop
  | nil (x y z : Nat) (hx : x ≤ b.length) (hy : y ≤ o.length) (hz : z ≤ t.length) : Chain b o t x y z []
  | cons (x y z i j k : Nat) (K : List Tri) (h1 : x ≤ i) (h2 : y ≤ j) (h3 : z ≤ k) (hx : i < b.length) (hy : j < o.length) (hz : k < t.length) (e1 : b[i] = o[j]) (e2 : b[i] = t[k]) (h : Chain b o t (i + 1) (j + 1) (k + 1) K) : Chain b o t x y z ((i, j, k) :: K)
theorem Chain.le {b o t : List Int} {x y z : Nat} {K : List Tri} (h : Chain b o t x y z K) : x ≤ b.length ∧ y ≤ o.length ∧ z ≤ t.length := by
  cases h with
  | nil x y z hx hy hz => exact ⟨hx, hy, hz⟩
  | cons x y z i j k K h1 h2 h3 hx hy hz => exact ⟨by omega, by omega, by omega⟩
theorem Chain.lower {b o t : List Int} {x y z x' y' z' : Nat} {K : List Tri} (h : Chain b o t x y z K) (h1 : x' ≤ x) (h2 : y' ≤ y) (h3 : z' ≤ z) : Chain b o t x' y' z' K := by
  cases h with
  | nil x y z hx hy hz => exact .nil _ _ _ (by omega) (by omega) (by omega)
  | cons x y z i j k K g1 g2 g3 hx hy hz e1 e2 h => exact .cons _ _ _ _ _ _ _ (by omega) (by omega) (by omega) hx hy hz e1 e2 h
/-- What both sides keep: the places. -/
def tri (b o t : List Int) : List Tri := trs (prs b o 0 0) (prs b t 0 0) 0 b.length
theorem kp_prs {l m : List Int} {i j : Nat} : kp (prs l m 0 0) i = some j ↔ (i, j) ∈ prs l m 0 0 := ⟨kp_mem, kp_of_mem (prs_rise l m 0 0)⟩
theorem kp_prs_get {l m : List Int} {i j : Nat} (h : kp (prs l m 0 0) i = some j) : ∃ (h : i < l.length) (g : j < m.length), l[i] = m[j] := (prs_mem l m 0 0 _ (kp_mem h)).2.2
theorem kp_prs_lt {l m : List Int} {i j i' j' : Nat} (h : kp (prs l m 0 0) i = some j) (h' : kp (prs l m 0 0) i' = some j') (hl : i < i') : j < j' := by
  have h1 := kp_mem h
  have h2 := kp_mem h'
  obtain ⟨n1, g1, e1⟩ := List.getElem_of_mem h1
  obtain ⟨n2, g2, e2⟩ := List.getElem_of_mem h2
  have hp := List.pairwise_iff_getElem.1 (prs_rise l m 0 0)
  rcases Nat.lt_trichotomy n1 n2 with hn | hn | hn
  · have := (hp n1 n2 g1 g2 hn).2
    rw [e1, e2] at this
    exact this
  · subst hn
    rw [e1] at e2
    cases e2
    omega
  · have := (hp n2 n1 g2 g1 hn).1
    rw [e1, e2] at this
    have : i' < i := this
    omega
theorem chain_trs (b o t : List Int) (m : Nat) : ∀ (x y z : Nat), x + m = b.length → y ≤ o.length → z ≤ t.length →
    (∀ i j, x ≤ i → kp (prs b o 0 0) i = some j → y ≤ j) → (∀ i k, x ≤ i → kp (prs b t 0 0) i = some k → z ≤ k) → Chain b o t x y z (trs (prs b o 0 0) (prs b t 0 0) x m) := by
  induction m with
  | zero => intro x y z hx hy hz _ _; exact .nil _ _ _ (by omega) hy hz
  | succ m ih =>
    intro x y z hx hy hz h1 h2
    cases e1 : kp (prs b o 0 0) x with
    | none => rw [trs_none _ _ _ _ (Or.inl e1)]; exact (ih (x + 1) y z (by omega) hy hz (fun i j hi => h1 i j (by omega)) (fun i j hi => h2 i j (by omega))).lower (by omega) (Nat.le_refl _) (Nat.le_refl _)
    | some j =>
      cases e2 : kp (prs b t 0 0) x with
      | none => rw [trs_none _ _ _ _ (Or.inr e2)]; exact (ih (x + 1) y z (by omega) hy hz (fun i j hi => h1 i j (by omega)) (fun i j hi => h2 i j (by omega))).lower (by omega) (Nat.le_refl _) (Nat.le_refl _)
      | some k =>
        rw [trs_some _ _ _ _ _ _ e1 e2]
        obtain ⟨a1, a2, a3⟩ := kp_prs_get e1
        obtain ⟨c1, c2, c3⟩ := kp_prs_get e2
        refine .cons _ _ _ _ _ _ _ (Nat.le_refl _) (h1 _ _ (Nat.le_refl _) e1) (h2 _ _ (Nat.le_refl _) e2) a1 a2 c2 a3 c3 ?_
        refine ih (x + 1) (j + 1) (k + 1) (by omega) (by omega) (by omega) (fun i j' hi hk => ?_) (fun i j' hi hk => ?_)
        · exact kp_prs_lt e1 hk (by omega)
        · exact kp_prs_lt e2 hk (by omega)
theorem chain_tri (b o t : List Int) : Chain b o t 0 0 0 (tri b o t) :=
  chain_trs b o t b.length 0 0 0 (by omega) (by omega) (by omega) (fun _ _ _ _ => Nat.zero_le _) (fun _ _ _ _ => Nat.zero_le _)

/-- What comes of a part. -/
def gp (b o t : List Int) : Option (List Int) := if o = t then some o else if o = b then some t else if t = b then some o else none
/-- What comes of all from (x, y, z) on. -/
def mrg (b o t : List Int) : Nat → Nat → Nat → List Tri → Option (List Int)
  | x, y, z, [] => gp (b.drop x) (o.drop y) (t.drop z)
  | x, y, z, (i, j, k) :: K => (gp (seg b x i) (seg o y j) (seg t z k)).bind fun p => (mrg b o t (i + 1) (j + 1) (k + 1) K).map fun r => p ++ (seg t k (k + 1) ++ r)
/-- What comes of chunks. -/
def cont (o t : List Int) : List Ch → Option (List Int)
  | [] => some []
  | c :: cs => if c.c = 5 then none else (cont o t cs).map fun r => (if c.c = 2 ∨ c.c = 4 then seg o c.y0 c.y1 else seg t c.z0 c.z1) ++ r
theorem gp_outc (b o t : List Int) : gp b o t = if outc b o t = 5 then none else some (if outc b o t = 2 ∨ outc b o t = 4 then o else t) := by
  unfold gp outc
  by_cases h1 : o = t
  · subst h1; simp
  · by_cases h2 : o = b
    · subst h2; simp [h1]
    · by_cases h3 : t = b
      · subst h3; simp [h1]
      · simp [h1, h2, h3]
theorem cont_gap (b o t : List Int) (x i y j z k : Nat) (cs : List Ch) : cont o t (gap b o t x i y j z k :: cs) = (gp (seg b x i) (seg o y j) (seg t z k)).bind fun p => (cont o t cs).map fun r => p ++ r := by
  rw [cont, gp_outc]
  unfold gap
  simp only
  by_cases h : outc (seg b x i) (seg o y j) (seg t z k) = 5
  · rw [if_pos h, if_pos h]; rfl
  · rw [if_neg h, if_neg h, Option.bind_some]
theorem cont_same (o t : List Int) (x y z n : Nat) (cs : List Ch) (hn : 0 < n) : cont o t (same x y z n ++ cs) = (cont o t cs).map fun r => seg t z (z + n) ++ r := by
  rw [same_pos _ _ _ _ hn]
  rw [List.cons_append, List.nil_append, cont]
  simp
theorem cont_same' (o t : List Int) (x y z n : Nat) (cs : List Ch) : cont o t (same x y z n ++ cs) = (cont o t cs).map fun r => seg t z (z + n) ++ r := by
  by_cases hn : 0 < n
  · exact cont_same o t x y z n cs hn
  · have : n = 0 := by omega
    subst this
    rw [same_zero, List.nil_append]
    simp [seg_nil]
theorem gp_same (b l : List Int) : gp b l l = some l := by simp [gp]
theorem gp_nil : gp [] [] [] = some [] := rfl
/-- What comes of the chunks comes place by place. -/
theorem cont_chs (b o t : List Int) (K : List Tri) : ∀ (x y z n : Nat), Chain b o t (x + n) (y + n) (z + n) K → cont o t (chs b o t x y z n K) = (mrg b o t (x + n) (y + n) (z + n) K).map fun r => seg t z (z + n) ++ r := by
  induction K with
  | nil =>
    intro x y z n hc
    obtain ⟨hx, hy, hz⟩ := hc.le
    rw [chs, cont_same', mrg]
    by_cases h : x + n < b.length ∨ y + n < o.length ∨ z + n < t.length
    · rw [if_pos h, cont_gap, seg_all, seg_all, seg_all]
      simp [cont]
    · rw [if_neg h, List.drop_eq_nil_of_le (by omega), List.drop_eq_nil_of_le (by omega), List.drop_eq_nil_of_le (by omega), gp_nil, cont]
  | cons p K ih =>
    obtain ⟨i, j, k⟩ := p
    intro x y z n hc
    cases hc with
    | cons _ _ _ _ _ _ _ h1 h2 h3 hx hy hz e1 e2 hc =>
    rw [chs, mrg]
    by_cases h : i = x + n ∧ j = y + n ∧ k = z + n
    · obtain ⟨rfl, rfl, rfl⟩ := h
      rw [if_pos ⟨rfl, rfl, rfl⟩, ih x y z (n + 1) hc, seg_nil, seg_nil, seg_nil, gp_nil, Option.bind_some, Option.map_map]
      congr 1
      funext r
      show seg t z (z + (n + 1)) ++ r = seg t z (z + n) ++ ([] ++ (seg t (z + n) (z + n + 1) ++ r))
      rw [List.nil_append, ← List.append_assoc, seg_seg _ _ _ _ (by omega) (by omega)]
      rfl
    · rw [if_neg h, cont_same', cont_gap, ih i j k 1 hc]
      congr 1
      congr 1
      funext p
      rw [Option.map_map]
      rfl
theorem cont_all (b o t : List Int) : cont o t (chs b o t 0 0 0 0 (tri b o t)) = mrg b o t 0 0 0 (tri b o t) := by
  rw [cont_chs b o t _ 0 0 0 0 (by simpa using chain_tri b o t)]
  simp [seg_nil]
/-- All of the chunks, and what comes of all. -/
def chunks (b o t : List Int) : List Ch := chs b o t 0 0 0 0 (tri b o t)
def merge (b o t : List Int) : Option (List Int) := mrg b o t 0 0 0 (tri b o t)
end Go.Proofs.Ytlkgdfeeepiidaa.Wv
