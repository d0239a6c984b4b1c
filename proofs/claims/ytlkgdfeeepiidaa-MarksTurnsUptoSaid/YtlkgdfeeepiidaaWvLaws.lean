/- Plain laws of three lists, part by part: the sides exchanged; other numbers; the same number ahead of all, or behind. No program here. -/
import Derived.Test.YtlkgdfeeepiidaaWvC
namespace Go.Proofs.Ytlkgdfeeepiidaa.Wv
open Go.Proofs.Ytlkgdfeeepiidaa.Lcs

/-! The sides exchanged. -/
def sw (p : Tri) : Tri := (p.1, p.2.2, p.2.1)
theorem trs_sw (P Q : List (Nat × Nat)) (m : Nat) : ∀ x, trs Q P x m = (trs P Q x m).map sw := by
  induction m with
  | zero => intro x; rfl
  | succ m ih =>
    intro x
    cases e1 : kp P x with
    | none => rw [trs_none P Q _ _ (Or.inl e1), trs_none Q P _ _ (Or.inr e1), ih]
    | some j =>
      cases e2 : kp Q x with
      | none => rw [trs_none P Q _ _ (Or.inr e2), trs_none Q P _ _ (Or.inl e2), ih]
      | some k => rw [trs_some P Q _ _ _ _ e1 e2, trs_some Q P _ _ _ _ e2 e1, ih]; rfl
theorem tri_sw (b o t : List Int) : tri b t o = (tri b o t).map sw := trs_sw _ _ _ _
def swc (c : Int) : Int := if c = 2 then 3 else if c = 3 then 2 else c
def swch (c : Ch) : Ch := ⟨c.x0, c.x1, c.z0, c.z1, c.y0, c.y1, swc c.c⟩
theorem outc_sw (b o t : List Int) : outc b t o = swc (outc b o t) := by
  unfold outc swc
  by_cases h1 : o = t
  · subst h1; simp
  · by_cases h2 : o = b
    · subst h2
      have h3 : ¬ t = o := fun h => h1 h.symm
      simp [h1, h3]
    · by_cases h3 : t = b
      · subst h3
        have h4 : ¬ t = o := fun h => h1 h.symm
        simp [h1, h4]
      · have h4 : ¬ t = o := fun h => h1 h.symm
        simp [h1, h2, h3, h4]
theorem same_sw (x y z n : Nat) : same x z y n = (same x y z n).map swch := by
  unfold same
  split <;> simp [swch, swc]
theorem gap_sw (b o t : List Int) (x i y j z k : Nat) : gap b t o x i z k y j = swch (gap b o t x i y j z k) := by
  unfold gap swch
  rw [outc_sw]
theorem chs_sw (b o t : List Int) (K : List Tri) : ∀ x y z n, chs b t o x z y n (K.map sw) = (chs b o t x y z n K).map swch := by
  induction K with
  | nil =>
    intro x y z n
    rw [List.map_nil, chs, chs, List.map_append, same_sw]
    congr 1
    by_cases h : x + n < b.length ∨ y + n < o.length ∨ z + n < t.length
    · rw [if_pos h, if_pos (by omega), gap_sw]; rfl
    · rw [if_neg h, if_neg (by omega)]; rfl
  | cons p K ih =>
    obtain ⟨i, j, k⟩ := p
    intro x y z n
    rw [List.map_cons]
    show chs b t o x z y n ((i, k, j) :: K.map sw) = _
    rw [chs, chs]
    by_cases h : i = x + n ∧ j = y + n ∧ k = z + n
    · rw [if_pos h, if_pos ⟨h.1, h.2.2, h.2.1⟩, ih]
    · rw [if_neg h, if_neg (fun hh => h ⟨hh.1, hh.2.2, hh.2.1⟩), ih, List.map_append, List.map_cons, same_sw, gap_sw]
theorem chunks_sw (b o t : List Int) : chunks b t o = (chunks b o t).map swch := by
  unfold chunks
  rw [tri_sw, chs_sw]
theorem gp_sw (b o t : List Int) : gp b t o = gp b o t := by
  unfold gp
  by_cases h1 : o = t
  · subst h1; rfl
  · have h4 : ¬ t = o := fun h => h1 h.symm
    rw [if_neg h1, if_neg h4]
    by_cases h2 : o = b
    · by_cases h3 : t = b
      · exact absurd (h2.trans h3.symm) h1
      · rw [if_neg h3, if_pos h2, if_pos h2]
    · rw [if_neg h2, if_neg h2]
theorem mrg_sw (b o t : List Int) (K : List Tri) : ∀ x y z, Chain b o t x y z K → mrg b t o x z y (K.map sw) = mrg b o t x y z K := by
  induction K with
  | nil => intro x y z _; rw [List.map_nil, mrg, mrg, gp_sw]
  | cons p K ih =>
    obtain ⟨i, j, k⟩ := p
    intro x y z hc
    cases hc with
    | cons _ _ _ _ _ _ _ h1 h2 h3 hx hy hz e1 e2 hc =>
    rw [List.map_cons]
    show mrg b t o x z y ((i, k, j) :: K.map sw) = _
    rw [mrg, mrg, gp_sw, ih _ _ _ hc, seg_one o j hy, seg_one t k hz, ← e1, ← e2]
theorem merge_sw (b o t : List Int) : merge b t o = merge b o t := by
  unfold merge
  rw [tri_sw, mrg_sw _ _ _ _ _ _ _ (chain_tri b o t)]

/-! Other numbers, each into one of its own. -/
theorem lcs_map (f : Int → Int) : ∀ (l m : List Int), (∀ a ∈ l, ∀ c ∈ m, f a = f c → a = c) → lcs (l.map f) (m.map f) = lcs l m := by
  intro l m
  induction l, m using lcs.induct with
  | case1 m => intro _; rw [List.map_nil, lcs_nil_left, lcs_nil_left]
  | case2 a l1 => intro _; rw [List.map_nil, lcs_nil_right, lcs_nil_right]
  | case3 a l1 l2 ih =>
    intro h
    rw [List.map_cons, List.map_cons, lcs_cons, lcs_cons, if_pos rfl, if_pos rfl, ih (fun x hx c hc => h x (List.mem_cons_of_mem _ hx) c (List.mem_cons_of_mem _ hc))]
  | case4 a l1 b l2 hne ih1 ih2 =>
    intro h
    have hn : ¬ f a = f b := fun e => hne (h a (List.mem_cons_self ..) b (List.mem_cons_self ..) e)
    rw [List.map_cons, List.map_cons, lcs_cons, lcs_cons, if_neg hn, if_neg hne]
    have e1 := ih1 (fun x hx c hc => h x (List.mem_cons_of_mem _ hx) c hc)
    have e2 := ih2 (fun x hx c hc => h x hx c (List.mem_cons_of_mem _ hc))
    rw [List.map_cons] at e1 e2
    rw [e1, e2]
theorem tv_map (f : Int → Int) (l m : List Int) (h : ∀ a ∈ l, ∀ c ∈ m, f a = f c → a = c) (i k : Nat) : tv (l.map f) (m.map f) i k = tv l m i k := by
  unfold tv
  rw [← List.map_drop, ← List.map_drop, lcs_map]
  exact fun a ha c hc => h a (List.mem_of_mem_drop ha) c (List.mem_of_mem_drop hc)
theorem prs_map (f : Int → Int) (l m : List Int) (h : ∀ a ∈ l, ∀ c ∈ m, f a = f c → a = c) (i k : Nat) : prs (l.map f) (m.map f) i k = prs l m i k := by
  induction i, k using prs.induct (l := l) (m := m) with
  | case1 i k hh he ih =>
    rw [prs_same l m i k hh.1 hh.2 he, prs_same _ _ i k (by simpa using hh.1) (by simpa using hh.2) (by simp [he]), ih]
  | case2 i k hh he hv ih =>
    have hn : ¬ (l.map f)[i]'(by simpa using hh.1) = (m.map f)[k]'(by simpa using hh.2) := by
      rw [List.getElem_map, List.getElem_map]
      exact fun e => he (h _ (List.getElem_mem _) _ (List.getElem_mem _) e)
    rw [prs_down l m i k hh.1 hh.2 he hv, prs_down _ _ i k (by simpa using hh.1) (by simpa using hh.2) hn (by rw [tv_map f l m h, tv_map f l m h]; exact hv), ih]
  | case3 i k hh he hv ih =>
    have hn : ¬ (l.map f)[i]'(by simpa using hh.1) = (m.map f)[k]'(by simpa using hh.2) := by
      rw [List.getElem_map, List.getElem_map]
      exact fun e => he (h _ (List.getElem_mem _) _ (List.getElem_mem _) e)
    rw [prs_right l m i k hh.1 hh.2 he hv, prs_right _ _ i k (by simpa using hh.1) (by simpa using hh.2) hn (by rw [tv_map f l m h, tv_map f l m h]; exact hv), ih]
  | case4 i k hh => rw [prs_end l m i k hh, prs_end _ _ i k (by simpa using hh)]
theorem seg_map (f : Int → Int) (l : List Int) (x y : Nat) : seg (l.map f) x y = (seg l x y).map f := by unfold seg; rw [List.map_drop, List.map_take]
theorem map_eq_on (f : Int → Int) : ∀ (l m : List Int), (∀ a ∈ l, ∀ c ∈ m, f a = f c → a = c) → ((l.map f == m.map f) = (l == m)) := by
  intro l
  induction l with
  | nil => intro m _; cases m <;> rfl
  | cons a l ih =>
    intro m h
    cases m with
    | nil => rfl
    | cons c m =>
      rw [List.map_cons, List.map_cons, List.cons_beq_cons, List.cons_beq_cons, ih m (fun x hx y hy => h x (List.mem_cons_of_mem _ hx) y (List.mem_cons_of_mem _ hy))]
      congr 1
      rw [Bool.eq_iff_iff, beq_iff_eq, beq_iff_eq]
      exact ⟨h a (List.mem_cons_self ..) c (List.mem_cons_self ..), fun e => by rw [e]⟩
theorem seg_sub {l : List Int} {x y : Nat} {a : Int} (h : a ∈ seg l x y) : a ∈ l := List.mem_of_mem_take (List.mem_of_mem_drop h)
theorem gap_map (f : Int → Int) (b o t : List Int) (h1 : ∀ a ∈ o, ∀ c ∈ t, f a = f c → a = c) (h2 : ∀ a ∈ o, ∀ c ∈ b, f a = f c → a = c) (h3 : ∀ a ∈ t, ∀ c ∈ b, f a = f c → a = c) (x i y j z k : Nat) :
    gap (b.map f) (o.map f) (t.map f) x i y j z k = gap b o t x i y j z k := by
  unfold gap outc
  rw [seg_map, seg_map, seg_map, map_eq_on f _ _ (fun a ha c hc => h1 a (seg_sub ha) c (seg_sub hc)), map_eq_on f _ _ (fun a ha c hc => h2 a (seg_sub ha) c (seg_sub hc)), map_eq_on f _ _ (fun a ha c hc => h3 a (seg_sub ha) c (seg_sub hc))]
theorem chs_map (f : Int → Int) (b o t : List Int) (h1 : ∀ a ∈ o, ∀ c ∈ t, f a = f c → a = c) (h2 : ∀ a ∈ o, ∀ c ∈ b, f a = f c → a = c) (h3 : ∀ a ∈ t, ∀ c ∈ b, f a = f c → a = c) (K : List Tri) :
    ∀ x y z n, chs (b.map f) (o.map f) (t.map f) x y z n K = chs b o t x y z n K := by
  induction K with
  | nil =>
    intro x y z n
    rw [chs, chs, List.length_map, List.length_map, List.length_map, gap_map f b o t h1 h2 h3]
  | cons p K ih =>
    obtain ⟨i, j, k⟩ := p
    intro x y z n
    rw [chs, chs, ih, ih, gap_map f b o t h1 h2 h3]
theorem chunks_map (f : Int → Int) (b o t : List Int) (h : ∀ a ∈ b ++ o ++ t, ∀ c ∈ b ++ o ++ t, f a = f c → a = c) : chunks (b.map f) (o.map f) (t.map f) = chunks b o t := by
  have hb : ∀ a ∈ b, a ∈ b ++ o ++ t := fun a ha => by simp [ha]
  have ho : ∀ a ∈ o, a ∈ b ++ o ++ t := fun a ha => by simp [ha]
  have ht : ∀ a ∈ t, a ∈ b ++ o ++ t := fun a ha => by simp [ha]
  unfold chunks tri
  rw [prs_map f b o (fun a ha c hc => h a (hb a ha) c (ho c hc)), prs_map f b t (fun a ha c hc => h a (hb a ha) c (ht c hc)), List.length_map,
    chs_map f b o t (fun a ha c hc => h a (ho a ha) c (ht c hc)) (fun a ha c hc => h a (ho a ha) c (hb c hc)) (fun a ha c hc => h a (ht a ha) c (hb c hc))]

/-! What stands ahead of both lists. -/
theorem tv_app (A B l m : List Int) (i k : Nat) : tv (A ++ l) (B ++ m) (A.length + i) (B.length + k) = tv l m i k := by
  unfold tv
  rw [List.drop_length_add_append, List.drop_length_add_append]
theorem prs_app (A B l m : List Int) (i k : Nat) : prs (A ++ l) (B ++ m) (A.length + i) (B.length + k) = (prs l m i k).map (fun p => (A.length + p.1, B.length + p.2)) := by
  induction i, k using prs.induct (l := l) (m := m) with
  | case1 i k hh he ih =>
    rw [prs_same l m i k hh.1 hh.2 he, List.map_cons, ← ih]
    exact prs_same _ _ _ _ (by simp; exact hh.1) (by simp; exact hh.2) (by rw [List.getElem_append_right (by omega), List.getElem_append_right (by omega)]; simpa using he)
  | case2 i k hh he hv ih =>
    rw [prs_down l m i k hh.1 hh.2 he hv, ← ih]
    refine prs_down _ _ _ _ (by simp; exact hh.1) (by simp; exact hh.2) (by rw [List.getElem_append_right (by omega), List.getElem_append_right (by omega)]; simpa using he) ?_
    have e1 := tv_app A B l m i (k + 1)
    have e2 := tv_app A B l m (i + 1) k
    rw [← Nat.add_assoc] at e1 e2
    rw [e1, e2]; exact hv
  | case3 i k hh he hv ih =>
    rw [prs_right l m i k hh.1 hh.2 he hv, ← ih]
    refine prs_right _ _ _ _ (by simp; exact hh.1) (by simp; exact hh.2) (by rw [List.getElem_append_right (by omega), List.getElem_append_right (by omega)]; simpa using he) ?_
    have e1 := tv_app A B l m i (k + 1)
    have e2 := tv_app A B l m (i + 1) k
    rw [← Nat.add_assoc] at e1 e2
    rw [e1, e2]; exact hv
  | case4 i k hh =>
    rw [prs_end l m i k hh, List.map_nil]
    exact prs_end _ _ _ _ (by simpa using hh)
def sh (u v : Nat) (ps : List (Nat × Nat)) : List (Nat × Nat) := ps.map (fun p => (u + p.1, v + p.2))
theorem kp_sh (u v : Nat) (ps : List (Nat × Nat)) (i : Nat) : kp (sh u v ps) (u + i) = (kp ps i).map (v + ·) := by
  unfold kp sh
  rw [List.find?_map, Option.map_map, Option.map_map]
  have : ((fun p : Nat × Nat => p.1 == u + i) ∘ fun p : Nat × Nat => (u + p.1, v + p.2)) = fun p => p.1 == i := by
    funext p
    simp only [Function.comp_apply]
    rw [Bool.eq_iff_iff, beq_iff_eq, beq_iff_eq]
    omega
  rw [this]
  rfl
def sh3 (u v q : Nat) (p : Tri) : Tri := (u + p.1, v + p.2.1, q + p.2.2)
theorem trs_sh (u v q : Nat) (P Q P' Q' : List (Nat × Nat)) (hP : ∀ i, kp P' (u + i) = (kp P i).map (v + ·)) (hQ : ∀ i, kp Q' (u + i) = (kp Q i).map (q + ·)) (m : Nat) : ∀ x, trs P' Q' (u + x) m = (trs P Q x m).map (sh3 u v q) := by
  induction m with
  | zero => intro x; rfl
  | succ m ih =>
    intro x
    have := ih (x + 1)
    rw [← Nat.add_assoc] at this
    cases e1 : kp P x with
    | none => rw [trs_none P Q _ _ (Or.inl e1), trs_none P' Q' _ _ (Or.inl (by rw [hP, e1]; rfl)), this]
    | some j =>
      cases e2 : kp Q x with
      | none => rw [trs_none P Q _ _ (Or.inr e2), trs_none P' Q' _ _ (Or.inr (by rw [hQ, e2]; rfl)), this]
      | some k => rw [trs_some P Q _ _ _ _ e1 e2, trs_some P' Q' _ _ _ _ (by rw [hP, e1]; rfl) (by rw [hQ, e2]; rfl), this]; rfl
theorem seg_app (A l : List Int) (x y : Nat) : seg (A ++ l) (A.length + x) (A.length + y) = seg l x y := by
  unfold seg
  rw [List.take_length_add_append, List.drop_length_add_append]
theorem mrg_app (A B C b o t : List Int) (K : List Tri) : ∀ x y z, mrg (A ++ b) (B ++ o) (C ++ t) (A.length + x) (B.length + y) (C.length + z) (K.map (sh3 A.length B.length C.length)) = mrg b o t x y z K := by
  induction K with
  | nil => intro x y z; rw [List.map_nil, mrg, mrg, List.drop_length_add_append, List.drop_length_add_append, List.drop_length_add_append]
  | cons p K ih =>
    obtain ⟨i, j, k⟩ := p
    intro x y z
    rw [List.map_cons]
    show mrg (A ++ b) (B ++ o) (C ++ t) (A.length + x) (B.length + y) (C.length + z) ((A.length + i, B.length + j, C.length + k) :: K.map (sh3 A.length B.length C.length)) = _
    rw [mrg, mrg, seg_app, seg_app, seg_app]
    have := ih (i + 1) (j + 1) (k + 1)
    rw [← Nat.add_assoc, ← Nat.add_assoc, ← Nat.add_assoc] at this
    have e := seg_app C t k (k + 1)
    rw [← Nat.add_assoc] at e
    rw [this, e]
theorem prs_front (x : Int) (l m : List Int) : prs (x :: l) (x :: m) 0 0 = (0, 0) :: sh 1 1 (prs l m 0 0) := by
  rw [prs_same (x :: l) (x :: m) 0 0 (by simp) (by simp) rfl]
  have := prs_app [x] [x] l m 0 0
  exact congrArg _ this
theorem kp_front (x : Int) (l m : List Int) : kp (prs (x :: l) (x :: m) 0 0) 0 = some 0 := by rw [prs_front]; rfl
theorem kp_front' (x : Int) (l m : List Int) (i : Nat) : kp (prs (x :: l) (x :: m) 0 0) (1 + i) = (kp (prs l m 0 0) i).map (1 + ·) := by
  rw [prs_front, ← kp_sh]
  unfold kp
  rw [List.find?_cons_of_neg (by simp; omega)]
/-- With the same number ahead of all three. -/
theorem merge_front (x : Int) (b o t : List Int) : merge (x :: b) (x :: o) (x :: t) = (merge b o t).map (fun r => x :: r) := by
  unfold merge tri
  rw [List.length_cons, trs_some _ _ _ _ _ _ (kp_front x b o) (kp_front x b t)]
  have h := trs_sh 1 1 1 (prs b o 0 0) (prs b t 0 0) _ _ (kp_front' x b o) (kp_front' x b t) b.length 0
  rw [Nat.add_zero] at h
  have h2 := mrg_app [x] [x] [x] b o t (trs (prs b o 0 0) (prs b t 0 0) 0 b.length) 0 0 0
  rw [mrg, seg_nil, seg_nil, seg_nil, gp_nil, Option.bind_some]
  show (mrg (x :: b) (x :: o) (x :: t) 1 1 1 (trs (prs (x :: b) (x :: o) 0 0) (prs (x :: b) (x :: t) 0 0) 1 b.length)).map _ = _
  rw [h]
  have h3 : mrg (x :: b) (x :: o) (x :: t) 1 1 1 ((trs (prs b o 0 0) (prs b t 0 0) 0 b.length).map (sh3 1 1 1)) = mrg b o t 0 0 0 (trs (prs b o 0 0) (prs b t 0 0) 0 b.length) := h2
  rw [h3]
  congr 1

/-! The same new number behind both lists. -/
theorem tv_snoc (l m : List Int) (x : Int) (i k : Nat) (hi : i ≤ l.length) (hk : k ≤ m.length) : tv (l ++ [x]) (m ++ [x]) i k = tv l m i k + 1 := by
  unfold tv
  rw [List.drop_append_of_le_length hi, List.drop_append_of_le_length hk, lcs_snoc_both]
theorem prs_both (l m : List Int) (x : Int) : prs (l ++ [x]) (m ++ [x]) l.length m.length = [(l.length, m.length)] := by
  rw [prs_same _ _ _ _ (by simp) (by simp) (by simp), prs_end _ _ _ _ (by simp)]
theorem prs_edge_r (l m : List Int) (x : Int) (hm : x ∉ m) (d : Nat) : ∀ k, k + d = m.length → prs (l ++ [x]) (m ++ [x]) l.length k = [(l.length, m.length)] := by
  induction d with
  | zero => intro k hk; have : k = m.length := by omega
            subst this; exact prs_both l m x
  | succ d ih =>
    intro k hk
    have hkl : k < m.length := by omega
    rw [prs_right _ _ _ _ (by simp) (by simp; omega) ?_ ?_]
    · exact ih (k + 1) (by omega)
    · rw [List.getElem_append_right (by omega), List.getElem_append_left hkl]
      simp
      exact fun h => hm (h ▸ List.getElem_mem hkl)
    · rw [tv_left _ _ (l.length + 1) k (by simp), tv_snoc l m x _ _ (Nat.le_refl _) (by omega)]
      omega
theorem prs_edge_d (l m : List Int) (x : Int) (hl : x ∉ l) (d : Nat) : ∀ i, i + d = l.length → prs (l ++ [x]) (m ++ [x]) i m.length = [(l.length, m.length)] := by
  induction d with
  | zero => intro i hi; have : i = l.length := by omega
            subst this; exact prs_both l m x
  | succ d ih =>
    intro i hi
    have hil : i < l.length := by omega
    rw [prs_down _ _ _ _ (by simp; omega) (by simp) ?_ ?_]
    · exact ih (i + 1) (by omega)
    · rw [List.getElem_append_left hil, List.getElem_append_right (by omega)]
      simp
      exact fun h => hl (h ▸ List.getElem_mem hil)
    · rw [tv_right _ _ i (m.length + 1) (by simp)]
      omega
theorem prs_back (l m : List Int) (x : Int) (hl : x ∉ l) (hm : x ∉ m) (i k : Nat) : i ≤ l.length → k ≤ m.length → prs (l ++ [x]) (m ++ [x]) i k = prs l m i k ++ [(l.length, m.length)] := by
  induction i, k using prs.induct (l := l) (m := m) with
  | case1 i k hh he ih =>
    intro _ _
    rw [prs_same l m i k hh.1 hh.2 he, prs_same _ _ i k (by simp; omega) (by simp; omega) (by rw [List.getElem_append_left hh.1, List.getElem_append_left hh.2, he]), ih (by omega) (by omega), List.cons_append]
  | case2 i k hh he hv ih =>
    intro _ _
    rw [prs_down l m i k hh.1 hh.2 he hv, prs_down _ _ i k (by simp; omega) (by simp; omega) (by rw [List.getElem_append_left hh.1, List.getElem_append_left hh.2]; exact he) (by rw [tv_snoc _ _ _ _ _ (by omega) (by omega), tv_snoc _ _ _ _ _ (by omega) (by omega)]; omega), ih (by omega) (by omega)]
  | case3 i k hh he hv ih =>
    intro _ _
    rw [prs_right l m i k hh.1 hh.2 he hv, prs_right _ _ i k (by simp; omega) (by simp; omega) (by rw [List.getElem_append_left hh.1, List.getElem_append_left hh.2]; exact he) (by rw [tv_snoc _ _ _ _ _ (by omega) (by omega), tv_snoc _ _ _ _ _ (by omega) (by omega)]; omega), ih (by omega) (by omega)]
  | case4 i k hh =>
    intro hi hk
    rw [prs_end l m i k hh, List.nil_append]
    by_cases h : i < l.length
    · have : k = m.length := by omega
      subst this
      exact prs_edge_d l m x hl (l.length - i) i (by omega)
    · have : i = l.length := by omega
      subst this
      exact prs_edge_r l m x hm (m.length - k) k (by omega)
theorem kp_back (ps : List (Nat × Nat)) (n m i : Nat) (h : i < n) : kp (ps ++ [(n, m)]) i = kp ps i := by
  unfold kp
  rw [List.find?_append]
  have : ([(n, m)] : List (Nat × Nat)).find? (fun p => p.1 == i) = none := by simp; omega
  rw [this, Option.or_none]
theorem kp_back_n (ps : List (Nat × Nat)) (n m : Nat) (h : ∀ p ∈ ps, p.1 < n) : kp (ps ++ [(n, m)]) n = some m := by
  unfold kp
  have : ps.find? (fun p => p.1 == n) = none := by
    rw [List.find?_eq_none]
    intro p hp
    have := h p hp
    simp; omega
  rw [List.find?_append, this]
  simp
theorem trs_back (P Q P' Q' : List (Nat × Nat)) (n j k : Nat) (hP : ∀ i, i < n → kp P' i = kp P i) (hQ : ∀ i, i < n → kp Q' i = kp Q i) (hj : kp P' n = some j) (hk : kp Q' n = some k) (m : Nat) : ∀ x, x + m = n → trs P' Q' x (m + 1) = trs P Q x m ++ [(n, j, k)] := by
  induction m with
  | zero =>
    intro x hx
    have : x = n := by omega
    subst this
    rw [trs_some _ _ _ _ _ _ hj hk]
    rfl
  | succ m ih =>
    intro x hx
    have h1 := hP x (by omega)
    have h2 := hQ x (by omega)
    have := ih (x + 1) (by omega)
    cases e1 : kp P x with
    | none => rw [trs_none P Q _ _ (Or.inl e1), trs_none P' Q' _ _ (Or.inl (by rw [h1, e1])), this]
    | some j =>
      cases e2 : kp Q x with
      | none => rw [trs_none P Q _ _ (Or.inr e2), trs_none P' Q' _ _ (Or.inr (by rw [h2, e2])), this]
      | some k => rw [trs_some P Q _ _ _ _ e1 e2, trs_some P' Q' _ _ _ _ (by rw [h1, e1]) (by rw [h2, e2]), this, List.cons_append]
theorem seg_left (l : List Int) (x : Int) (f t : Nat) (h : t ≤ l.length) : seg (l ++ [x]) f t = seg l f t := by
  unfold seg
  rw [List.take_append_of_le_length h]
theorem mrg_back (b o t : List Int) (x : Int) (K : List Tri) : ∀ u v q, Chain b o t u v q K → mrg (b ++ [x]) (o ++ [x]) (t ++ [x]) u v q (K ++ [(b.length, o.length, t.length)]) = (mrg b o t u v q K).map (fun r => r ++ [x]) := by
  induction K with
  | nil =>
    intro u v q _
    have hd : ∀ l : List Int, (l ++ [x]).drop (l.length + 1) = [] := fun l => List.drop_eq_nil_of_le (by simp)
    rw [List.nil_append, mrg, mrg, mrg, seg_left _ _ _ _ (Nat.le_refl _), seg_left _ _ _ _ (Nat.le_refl _), seg_left _ _ _ _ (Nat.le_refl _), seg_all, seg_all, seg_all,
      hd, hd, hd, gp_nil, seg_one (t ++ [x]) t.length (by simp)]
    rw [Option.map_eq_bind]
    congr 1
    funext p
    simp
  | cons p K ih =>
    obtain ⟨i, j, k⟩ := p
    intro u v q hc
    cases hc with
    | cons _ _ _ _ _ _ _ h1 h2 h3 hx hy hz e1 e2 hc =>
    rw [List.cons_append, mrg, mrg, seg_left _ _ _ _ (by omega), seg_left _ _ _ _ (by omega), seg_left _ _ _ _ (by omega), seg_left _ _ _ _ (by omega), ih _ _ _ hc]
    cases gp (seg b u i) (seg o v j) (seg t q k) with
    | none => rfl
    | some p =>
      rw [Option.bind_some, Option.bind_some, Option.map_map, Option.map_map]
      congr 1
      funext r
      simp
/-- With the same new number behind all three. -/
theorem merge_back (x : Int) (b o t : List Int) (hb : x ∉ b) (ho : x ∉ o) (ht : x ∉ t) : merge (b ++ [x]) (o ++ [x]) (t ++ [x]) = (merge b o t).map (fun r => r ++ [x]) := by
  unfold merge tri
  rw [prs_back b o x hb ho 0 0 (Nat.zero_le _) (Nat.zero_le _), prs_back b t x hb ht 0 0 (Nat.zero_le _) (Nat.zero_le _), List.length_append, List.length_singleton]
  rw [trs_back (prs b o 0 0) (prs b t 0 0) _ _ b.length o.length t.length (fun i hi => kp_back _ _ _ _ hi) (fun i hi => kp_back _ _ _ _ hi)
    (kp_back_n _ _ _ (fun p hp => (prs_mem b o 0 0 p hp).2.2.1)) (kp_back_n _ _ _ (fun p hp => (prs_mem b t 0 0 p hp).2.2.1)) b.length 0 (Nat.zero_add _)]
  exact mrg_back b o t x _ 0 0 0 (chain_tri b o t)
end Go.Proofs.Ytlkgdfeeepiidaa.Wv
