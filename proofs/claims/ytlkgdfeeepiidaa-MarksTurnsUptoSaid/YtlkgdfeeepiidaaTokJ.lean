/- Texts in order: what Sort, Compact and BinarySearch make of them, in plain words. · token.Ids, and the document's, tell for each text how many unlike ones stand ahead. -/
import Derived.Test.YtlkgdfeeepiidaaXIds1
import Derived.Test.YtlkgdfeeepiidaaF60
import Derived.Sort.Walk0
namespace Go.Proofs.Ytlkgdfeeepiidaa.TokI
open Go.RowKit Go.Proofs.Ytlkgdfeeepiidaa.All Go.Proofs.Ytlkgdfeeepiidaa.XIds Go.Proofs.YtlkgdfeeepiidaaW.PrintWords Go.Proofs.YtlkgdfeeepiidaaW.PrintLast
theorem wrapI {x : Int} (h0 : -9223372036854775808 ≤ x) (h1 : x ≤ 9223372036854775807) : wrap64 x = x := by unfold wrap64; omega
theorem oneI (n : Nat) (h : n < 1000000000000) : wrap64 ((n : Int) + 1) = ((n + 1 : Nat) : Int) := by rw [wrapI (by omega) (by omega)]; omega
/-- A text stands ahead of another one. -/
def lt (a b : ByteArray) : Prop := Op.bytesLess a.toList b.toList = true
instance (a b : ByteArray) : Decidable (lt a b) := by unfold lt; infer_instance
theorem bl_irrefl : ∀ x : List UInt8, Op.bytesLess x x = false
  | [] => rfl
  | a :: x => by rw [Op.bytesLess, bl_irrefl x]; simp
theorem bl_trans : ∀ x y z : List UInt8, Op.bytesLess x y = true → Op.bytesLess y z = true → Op.bytesLess x z = true
  | _, [], _ => by intro h; cases ‹List UInt8› <;> simp [Op.bytesLess] at h
  | [], b :: y, [] => by intro _ h; simp [Op.bytesLess] at h
  | [], b :: y, c :: z => by intro _ _; rfl
  | a :: x, b :: y, [] => by intro _ h; simp [Op.bytesLess] at h
  | a :: x, b :: y, c :: z => by
    intro h1 h2
    simp only [Op.bytesLess, Bool.or_eq_true, Bool.and_eq_true, decide_eq_true_eq, beq_iff_eq] at h1 h2 ⊢
    rcases h1 with h1 | ⟨rfl, h1⟩
    · rcases h2 with h2 | ⟨rfl, h2⟩
      · exact Or.inl (UInt8.lt_trans h1 h2)
      · exact Or.inl h1
    · rcases h2 with h2 | ⟨rfl, h2⟩
      · exact Or.inl h2
      · exact Or.inr ⟨rfl, bl_trans x y z h1 h2⟩
theorem bl_tri : ∀ x y : List UInt8, Op.bytesLess x y = false → Op.bytesLess y x = false → x = y
  | [], [] => fun _ _ => rfl
  | [], b :: y => by intro h; simp [Op.bytesLess] at h
  | a :: x, [] => by intro _ h; simp [Op.bytesLess] at h
  | a :: x, b :: y => by
    intro h1 h2
    simp only [Op.bytesLess, Bool.or_eq_false_iff, Bool.and_eq_false_iff, decide_eq_false_iff_not, beq_eq_false_iff_ne] at h1 h2
    have hab : a = b := by
      rcases Classical.em (a = b) with h | h
      · exact h
      · rcases UInt8.lt_or_lt_of_ne h with h | h
        · exact absurd h h1.1
        · exact absurd h h2.1
    subst hab
    rw [bl_tri x y (h1.2.resolve_left (fun h => h rfl)) (h2.2.resolve_left (fun h => h rfl))]
theorem key_inj {a b : ByteArray} (h : a.toList = b.toList) : a = b := by
  rw [ByteArray.toList_eq, ByteArray.toList_eq] at h
  cases a; cases b
  congr 1
  exact Array.toList_inj.1 h
theorem lt_irrefl (a : ByteArray) : ¬ lt a a := by unfold lt; rw [bl_irrefl]; simp
theorem lt_trans {a b c : ByteArray} (h1 : lt a b) (h2 : lt b c) : lt a c := bl_trans _ _ _ h1 h2
theorem lt_asymm {a b : ByteArray} (h1 : lt a b) (h2 : lt b a) : False := lt_irrefl a (lt_trans h1 h2)
theorem lt_tri {a b : ByteArray} (h1 : ¬ lt a b) (h2 : ¬ lt b a) : a = b := key_inj (bl_tri _ _ (by unfold lt at h1; simpa using h1) (by unfold lt at h2; simpa using h2))
/-- A list that rises. -/
def Up (l : List ByteArray) : Prop := l.Pairwise lt
/-- How many stand ahead of a text. -/
structure IsAt (l : List ByteArray) (s : ByteArray) (n : Nat) : Prop where
  le : n ≤ l.length
  low : ∀ j (h : j < l.length), j < n → lt l[j] s
  high : ∀ j (h : j < l.length), n ≤ j → ¬ lt l[j] s
theorem IsAt.uniq {l : List ByteArray} {s : ByteArray} {n m : Nat} (h : IsAt l s n) (g : IsAt l s m) : n = m := by
  rcases Nat.lt_trichotomy n m with hl | hl | hl
  · exact absurd (g.low n (by have := g.le; omega) hl) (h.high n (by have := g.le; omega) (Nat.le_refl _))
  · exact hl
  · exact absurd (h.low m (by have := h.le; omega) hl) (g.high m (by have := h.le; omega) (Nat.le_refl _))
theorem up_lt {l : List ByteArray} (hu : Up l) {i j : Nat} (hi : i < l.length) (hj : j < l.length) (h : i < j) : lt l[i] l[j] := List.pairwise_iff_getElem.1 hu i j hi hj h
theorem isAt_exists : ∀ {l : List ByteArray}, Up l → ∀ s : ByteArray, ∃ n, IsAt l s n := by
  intro l
  induction l with
  | nil => intro _ s; exact ⟨0, Nat.le_refl _, fun j h => absurd h (by simp), fun j h => absurd h (by simp)⟩
  | cons a l ih =>
    intro hu s
    have hc := List.pairwise_cons.1 hu
    by_cases ha : lt a s
    · obtain ⟨n, hn⟩ := ih hc.2 s
      refine ⟨n + 1, by have := hn.le; simp; omega, ?_, ?_⟩
      · intro j h hj
        cases j with
        | zero => exact ha
        | succ j => rw [List.getElem_cons_succ]; exact hn.low j (by simpa using h) (by omega)
      · intro j h hj
        cases j with
        | zero => omega
        | succ j => rw [List.getElem_cons_succ]; exact hn.high j (by simpa using h) (by omega)
    · refine ⟨0, Nat.zero_le _, fun j h hj => absurd hj (Nat.not_lt_zero j), ?_⟩
      intro j h _
      cases j with
      | zero => exact ha
      | succ j =>
        rw [List.getElem_cons_succ]
        exact fun hc' => ha (lt_trans (hc.1 _ (List.getElem_mem _)) hc')
theorem at_mem {l : List ByteArray} (hu : Up l) {s : ByteArray} {n : Nat} (h : IsAt l s n) (hs : s ∈ l) : ∃ hn : n < l.length, l[n] = s := by
  obtain ⟨j, hj, rfl⟩ := List.getElem_of_mem hs
  have h1 : n ≤ j := by
    rcases Nat.lt_or_ge j n with hlt | hge
    · exact absurd (h.low j hj hlt) (lt_irrefl _)
    · exact hge
  have h2 : ¬ n < j := fun hlt => h.high n (by omega) (Nat.le_refl _) (up_lt hu (by omega) hj hlt)
  have : n = j := by omega
  subst this
  exact ⟨hj, rfl⟩
theorem at_iff {l : List ByteArray} (hu : Up l) {s t : ByteArray} {n m : Nat} (hn : IsAt l s n) (hm : IsAt l t m) (hs : s ∈ l) (ht : t ∈ l) : (s = t ↔ n = m) ∧ (lt s t ↔ n < m) := by
  obtain ⟨h1, e1⟩ := at_mem hu hn hs
  obtain ⟨h2, e2⟩ := at_mem hu hm ht
  refine ⟨⟨fun h => ?_, fun h => ?_⟩, ⟨fun h => ?_, fun h => ?_⟩⟩
  · subst h; exact hn.uniq hm
  · subst h; exact e1.symm.trans e2
  · rcases Nat.lt_or_ge n m with hlt | hge
    · exact hlt
    · exact absurd (by rw [e1]; exact h) (hm.high n h1 hge)
  · rw [← e1]; exact hm.low n h1 h
/-- Two lists that rise, of the same texts, are the same. -/
theorem up_eq : ∀ {l m : List ByteArray}, Up l → Up m → (∀ x, x ∈ l ↔ x ∈ m) → l = m := by
  intro l
  induction l with
  | nil =>
    intro m _ _ h
    cases m with
    | nil => rfl
    | cons b m => exact absurd ((h b).2 (List.mem_cons_self ..)) (by simp)
  | cons a l ih =>
    intro m hl hm h
    cases m with
    | nil => exact absurd ((h a).1 (List.mem_cons_self ..)) (by simp)
    | cons b m =>
      have hl' := List.pairwise_cons.1 hl
      have hm' := List.pairwise_cons.1 hm
      have hab : a = b := by
        rcases List.mem_cons.1 ((h a).1 (List.mem_cons_self ..)) with e | ha
        · exact e
        · rcases List.mem_cons.1 ((h b).2 (List.mem_cons_self ..)) with e | hb
          · exact e.symm
          · exact (lt_asymm (hm'.1 a ha) (hl'.1 b hb)).elim
      subst hab
      congr 1
      refine ih hl'.2 hm'.2 (fun x => ⟨fun hx => ?_, fun hx => ?_⟩)
      · rcases List.mem_cons.1 ((h x).1 (List.mem_cons_of_mem _ hx)) with rfl | hx'
        · exact absurd (hl'.1 x hx) (lt_irrefl x)
        · exact hx'
      · rcases List.mem_cons.1 ((h x).2 (List.mem_cons_of_mem _ hx)) with rfl | hx'
        · exact absurd (hm'.1 x hx) (lt_irrefl x)
        · exact hx'
end Go.Proofs.Ytlkgdfeeepiidaa.TokI
namespace Go.Proofs.Ytlkgdfeeepiidaa.TokI
open Go.RowKit Go.Proofs.Ytlkgdfeeepiidaa.All Go.Proofs.Ytlkgdfeeepiidaa.XIds Go.Proofs.YtlkgdfeeepiidaaW.PrintWords Go.Proofs.YtlkgdfeeepiidaaW.PrintLast
/-- How many of a list's texts stand ahead of a text. -/
def num (l : List ByteArray) (s : ByteArray) : Nat := (l.filter (fun x => decide (lt x s))).length
theorem num_cons (a : ByteArray) (l : List ByteArray) (s : ByteArray) : num (a :: l) s = if lt a s then num l s + 1 else num l s := by
  unfold num
  by_cases h : lt a s
  · rw [List.filter_cons_of_pos (by simpa using h), if_pos h, List.length_cons]
  · rw [List.filter_cons_of_neg (by simpa using h), if_neg h]
theorem num_zero : ∀ {l : List ByteArray} {s : ByteArray}, (∀ x ∈ l, ¬ lt x s) → num l s = 0 := by
  intro l s h
  unfold num
  rw [List.filter_eq_nil_iff.2 (fun x hx => by simpa using h x hx)]
  rfl
theorem isAt_num : ∀ {l : List ByteArray}, Up l → ∀ s, IsAt l s (num l s) := by
  intro l
  induction l with
  | nil => intro _ s; exact ⟨Nat.le_refl _, fun j h => absurd h (by simp), fun j h => absurd h (by simp)⟩
  | cons a l ih =>
    intro hu s
    have hc := List.pairwise_cons.1 hu
    rw [num_cons]
    by_cases ha : lt a s
    · rw [if_pos ha]
      have hn := ih hc.2 s
      refine ⟨by have := hn.le; simp; omega, ?_, ?_⟩
      · intro j h hj
        cases j with
        | zero => exact ha
        | succ j => rw [List.getElem_cons_succ]; exact hn.low j (by simpa using h) (by omega)
      · intro j h hj
        cases j with
        | zero => omega
        | succ j => rw [List.getElem_cons_succ]; exact hn.high j (by simpa using h) (by omega)
    · rw [if_neg ha]
      have hall : ∀ x ∈ l, ¬ lt x s := fun x hx hc' => ha (lt_trans (hc.1 x hx) hc')
      rw [num_zero hall]
      refine ⟨Nat.zero_le _, fun j h hj => absurd hj (Nat.not_lt_zero j), ?_⟩
      intro j h _
      cases j with
      | zero => exact ha
      | succ j => rw [List.getElem_cons_succ]; exact hall _ (List.getElem_mem _)
theorem num_le (l : List ByteArray) (s : ByteArray) : num l s ≤ l.length := List.length_filter_le _ _
theorem rdB (l : List ByteArray) (i : Nat) (h : i < l.length) : rdOf ByteArray.empty l (i : Int) = l[i] := by unfold rdOf; simp [h]
theorem isNaN_is (s : ByteArray) : slices_isNaN_string.f s = some false := by unfold slices_isNaN_string.f; simp
theorem less_is (a b : ByteArray) : cmp_Less_string.f a b = some (decide (lt a b)) := by
  unfold cmp_Less_string.f cmp_isNaN_string.f
  by_cases h : Op.bytesLess a.toList b.toList = true <;> simp [lt, h]
/-- Halving finds the place. -/
theorem search_l0 (l : List ByteArray) (s : ByteArray) (hl : l.length ≤ 1000000) (hu : Up l) (d : Nat) : ∀ i j : Nat, j - i = d → i ≤ num l s → num l s ≤ j → j ≤ l.length → ∃ b, Ev (fun k => slices_BinarySearch_string_string.l0 k l s (l.length : Int) (i : Int) (j : Int)) ((num l s : Int), b) := by
  have ha := isAt_num hu s
  induction d using Nat.strongRecOn with
  | ind d ih =>
    intro i j hd hi hj hjl
    by_cases hij : i < j
    · have z1 : (i : Int) < (j : Int) := by omega
      have m1 : wrap64 ((i : Int) + (j : Int)) = ((i + j : Nat) : Int) := by rw [wrapI (by omega) (by omega)]; omega
      have m2 : IntKind.u64.wrap ((i + j : Nat) : Int) = ((i + j : Nat) : Int) := by rw [IntKind.wrap_u64]; clear m1; omega
      have m3 : wrap64 (((i + j : Nat) : Int) / 2) = (((i + j) / 2 : Nat) : Int) := by clear m1 m2; rw [wrapI (by omega) (by omega)]; omega
      have m4 : wrap64 ((((i + j) / 2 : Nat) : Int) + 1) = (((i + j) / 2 + 1 : Nat) : Int) := oneI _ (by clear m1 m2 m3; omega)
      have h1 : i ≤ (i + j) / 2 := by clear m1 m2 m3 m4; omega
      have h2 : (i + j) / 2 < j := by clear m1 m2 m3 m4; omega
      have z2 : (0 : Int) ≤ (((i + j) / 2 : Nat) : Int) := by clear m1 m2 m3 m4; omega
      have z3 : (((i + j) / 2 : Nat) : Int) < (l.length : Int) := by clear m1 m2 m3 m4; omega
      have hml : (i + j) / 2 < l.length := by clear m1 m2 m3 m4; omega
      have g := rdB l ((i + j) / 2) hml
      by_cases hlt : lt l[(i + j) / 2] s
      · have hge : (i + j) / 2 + 1 ≤ num l s := by
          rcases Nat.lt_or_ge ((i + j) / 2) (num l s) with h | h
          · exact h
          · exact absurd hlt (ha.high _ hml h)
        obtain ⟨b, hb⟩ := ih (j - ((i + j) / 2 + 1)) (by clear m1 m2 m3 m4 g; omega) ((i + j) / 2 + 1) j rfl hge hj hjl
        refine ⟨b, Ev.step (fun k => ?_) hb⟩
        rw [slices_BinarySearch_string_string.l0, if_pos z1, m1, m2, m3, if_pos z2, if_pos z3, g, less_is, Option.bind_some, decide_eq_true hlt, if_pos rfl, m4]
      · have hle : num l s ≤ (i + j) / 2 := by
          rcases Nat.lt_or_ge ((i + j) / 2) (num l s) with h | h
          · exact absurd (ha.low _ hml h) hlt
          · exact h
        obtain ⟨b, hb⟩ := ih ((i + j) / 2 - i) (by clear m1 m2 m3 m4 g; omega) i ((i + j) / 2) rfl hi hle (by clear m1 m2 m3 m4 g; omega)
        refine ⟨b, Ev.step (fun k => ?_) hb⟩
        rw [slices_BinarySearch_string_string.l0, if_pos z1, m1, m2, m3, if_pos z2, if_pos z3, g, less_is, Option.bind_some, decide_eq_false hlt, if_neg Bool.false_ne_true]
    · have z1 : ¬ (i : Int) < (j : Int) := by omega
      have hin : i = num l s := by omega
      rw [← hin]
      by_cases hil : i < l.length
      · have z2 : (i : Int) < (l.length : Int) := by omega
        have z3 : (0 : Int) ≤ (i : Int) := by omega
        have g := rdB l i hil
        refine ⟨decide (l[i].toList = s.toList), 1, fun k hk => ?_⟩
        obtain ⟨q, rfl⟩ : ∃ q, k = q + 1 := ⟨k - 1, (Nat.sub_add_cancel hk).symm⟩
        show slices_BinarySearch_string_string.l0 (q + 1) _ _ _ _ _ = _
        rw [slices_BinarySearch_string_string.l0, if_neg z1, if_pos z2, if_pos z3, if_pos z2, g, isNaN_is, Option.bind_some, if_neg Bool.false_ne_true]
        split
        · rename_i h; simp [h]
        · rename_i h; simp [h]
      · have z2 : ¬ (i : Int) < (l.length : Int) := by omega
        refine ⟨false, 1, fun k hk => ?_⟩
        obtain ⟨q, rfl⟩ : ∃ q, k = q + 1 := ⟨k - 1, (Nat.sub_add_cancel hk).symm⟩
        show slices_BinarySearch_string_string.l0 (q + 1) _ _ _ _ _ = _
        rw [slices_BinarySearch_string_string.l0, if_neg z1, if_neg z2]
theorem search_ev (l : List ByteArray) (s : ByteArray) (hl : l.length ≤ 1000000) (hu : Up l) : ∃ b, Ev (fun k => slices_BinarySearch_string_string.f k l s) ((num l s : Int), b) :=
  search_l0 l s hl hu _ 0 l.length rfl (Nat.zero_le _) (num_le l s) (Nat.le_refl _)
end Go.Proofs.Ytlkgdfeeepiidaa.TokI
namespace Go.Proofs.Ytlkgdfeeepiidaa.TokI
open Go.RowKit Go.Proofs.Ytlkgdfeeepiidaa.All Go.Proofs.Ytlkgdfeeepiidaa.XIds Go.Proofs.YtlkgdfeeepiidaaW.PrintWords Go.Proofs.YtlkgdfeeepiidaaW.PrintLast
/-! Sorted, each once. -/
def ltL (x y : List UInt8) : Prop := Op.bytesLess x y = true
theorem le_bl (x y : List UInt8) : decide (x ≤ y) = !Op.bytesLess y x := by
  rw [Go.Proofs.bytesLess_eq]
  by_cases h : y < x
  · have : ¬ x ≤ y := fun hh => hh h
    simp [h, this]
  · have : x ≤ y := h
    simp [h, this]
theorem sorted_pw (l : List (List UInt8)) : (l.mergeSort fun x y => decide (x ≤ y)).Pairwise (fun x y => Op.bytesLess y x = false) := by
  have h := List.pairwise_mergeSort (le := fun x y : List UInt8 => decide (x ≤ y)) ?_ ?_ l
  · refine h.imp (fun {a b} hab => ?_)
    rw [le_bl] at hab
    simpa using hab
  · intro a b c h1 h2
    rw [le_bl] at h1 h2 ⊢
    simp only [Bool.not_eq_true'] at h1 h2 ⊢
    cases h3 : Op.bytesLess c a with
    | false => rfl
    | true =>
      cases h4 : Op.bytesLess a b with
      | true => have := bl_trans _ _ _ h3 h4; rw [h2] at this; cases this
      | false =>
        have e := bl_tri _ _ h4 h1
        subst e
        rw [h2] at h3; cases h3
  · intro a b
    rw [le_bl, le_bl]
    cases h1 : Op.bytesLess b a with
    | false => rfl
    | true =>
      cases h2 : Op.bytesLess a b with
      | false => rfl
      | true => have := bl_trans _ _ _ h1 h2; rw [bl_irrefl] at this; cases this
theorem compact_inv (d : Array (List UInt8)) (hs : d.toList.Pairwise (fun x y => Op.bytesLess y x = false)) (m : Nat) (hm : m + 1 ≤ d.size) :
    (Lib.compactUpTo d (m + 1)).Pairwise ltL ∧ (∀ x ∈ Lib.compactUpTo d (m + 1), x = d[m]! ∨ ltL x d[m]!) ∧ (∀ x, x ∈ Lib.compactUpTo d (m + 1) ↔ x ∈ d.toList.take (m + 1)) := by
  induction m with
  | zero =>
    have h1 : Lib.compactUpTo d 1 = [d[0]!] := by
      rw [Lib.compactUpTo_succ, Lib.keeps_lt_one d 0 (by omega)]
      rfl
    rw [h1]
    refine ⟨List.pairwise_singleton _ _, fun x hx => Or.inl (List.mem_singleton.1 hx), fun x => ?_⟩
    have : d.toList.take 1 = [d[0]!] := by
      have h0 : 0 < d.toList.length := by rw [Array.length_toList]; omega
      rw [List.take_succ_eq_append_getElem h0, List.take_zero, List.nil_append, getElem!_pos d 0 (by simpa using h0)]
      rfl
    rw [this]
  | succ m ih =>
    obtain ⟨i1, i2, i3⟩ := ih (by omega)
    have hlt : m + 1 < d.toList.length := by rw [Array.length_toList]; omega
    have hlt0 : m < d.toList.length := by omega
    have e1 : d[m + 1]! = d.toList[m + 1] := by rw [getElem!_pos d (m + 1) (by simpa using hlt)]; rfl
    have e0 : d[m]! = d.toList[m] := by rw [getElem!_pos d m (by simpa using hlt0)]; rfl
    have hle : Op.bytesLess d[m + 1]! d[m]! = false := by
      rw [e1, e0]
      exact List.pairwise_iff_getElem.1 hs m (m + 1) hlt0 hlt (by omega)
    have ht : d.toList.take (m + 1 + 1) = d.toList.take (m + 1) ++ [d[m + 1]!] := by rw [List.take_succ_eq_append_getElem hlt, e1]
    rw [Lib.compactUpTo_succ, ht]
    by_cases hk : d[m + 1]! = d[m]!
    · rw [Lib.keeps_neg (d := d) (m := m + 1) (by omega) (by simpa using hk)]
      rw [if_neg Bool.false_ne_true, List.append_nil]
      refine ⟨i1, by rw [hk]; exact i2, fun x => ?_⟩
      rw [i3, List.mem_append, List.mem_singleton]
      constructor
      · exact Or.inl
      · rintro (h | h)
        · exact h
        · rw [h, hk, e0]
          exact List.mem_take_iff_getElem.2 ⟨m, by simp; omega, rfl⟩
    · rw [Lib.keeps_pos (d := d) (m := m + 1) (by simpa using hk), if_pos rfl]
      have hl : ltL d[m]! d[m + 1]! := by
        unfold ltL
        cases h : Op.bytesLess d[m]! d[m + 1]! with
        | true => rfl
        | false => exact absurd (bl_tri _ _ hle h) hk
      have hall : ∀ x ∈ Lib.compactUpTo d (m + 1), ltL x d[m + 1]! := by
        intro x hx
        rcases i2 x hx with h | h
        · rw [h]; exact hl
        · exact bl_trans _ _ _ h hl
      refine ⟨?_, ?_, fun x => ?_⟩
      · rw [List.pairwise_append]
        exact ⟨i1, List.pairwise_singleton _ _, fun a ha b hb => by rw [List.mem_singleton.1 hb]; exact hall a ha⟩
      · intro x hx
        rcases List.mem_append.1 hx with h | h
        · exact Or.inr (hall x h)
        · exact Or.inl (List.mem_singleton.1 h)
      · rw [List.mem_append, List.mem_append, i3]
theorem compact_sorted (l : List (List UInt8)) (hs : l.Pairwise (fun x y => Op.bytesLess y x = false)) : (Lib.compact l).Pairwise ltL ∧ ∀ x, x ∈ Lib.compact l ↔ x ∈ l := by
  unfold Lib.compact
  cases hl : l with
  | nil => exact ⟨by simp [Lib.compactUpTo], fun x => by simp [Lib.compactUpTo]⟩
  | cons a l' =>
    rw [← hl]
    have hlen : l.length = (l.length - 1) + 1 := by rw [hl]; simp
    have h := compact_inv l.toArray (by simpa using hs) (l.length - 1) (by simp; omega)
    rw [← hlen] at h
    refine ⟨h.1, fun x => ?_⟩
    rw [h.2.2 x]
    simp
/-- The texts of some lists, in order, each once. -/
def uni (ls : List (List ByteArray)) : List ByteArray := compB (sortB ls.flatten)
theorem toL_key (s : ByteArray) : toL s = s.toList := (ByteArray.toList_eq s).symm
theorem ofL_key (l : List UInt8) : (ofL l).toList = l := by rw [ByteArray.toList_eq]; rfl
theorem uni_up (ls : List (List ByteArray)) : Up (uni ls) := by
  unfold uni compB Up
  have e : (sortB ls.flatten).map toL = (ls.flatten.map toL).mergeSort fun x y => decide (x ≤ y) := by
    unfold sortB
    rw [List.map_map]
    exact (List.map_congr_left (fun x _ => rfl)).trans (List.map_id _)
  rw [e, List.pairwise_map]
  refine (compact_sorted _ (sorted_pw _)).1.imp (fun {a b} h => ?_)
  unfold lt
  rw [ofL_key, ofL_key]
  exact h
theorem uni_mem (ls : List (List ByteArray)) (s : ByteArray) : s ∈ uni ls ↔ s ∈ ls.flatten := by
  unfold uni compB
  have e : (sortB ls.flatten).map toL = (ls.flatten.map toL).mergeSort fun x y => decide (x ≤ y) := by
    unfold sortB
    rw [List.map_map]
    exact (List.map_congr_left (fun x _ => rfl)).trans (List.map_id _)
  rw [e, List.mem_map]
  constructor
  · rintro ⟨x, hx, rfl⟩
    rw [(compact_sorted _ (sorted_pw _)).2, List.mem_mergeSort, List.mem_map] at hx
    obtain ⟨y, hy, rfl⟩ := hx
    exact hy
  · intro hs
    refine ⟨toL s, ?_, rfl⟩
    rw [(compact_sorted _ (sorted_pw _)).2, List.mem_mergeSort, List.mem_map]
    exact ⟨s, hs, rfl⟩
theorem uni_length (ls : List (List ByteArray)) : (uni ls).length ≤ ls.flatten.length := by
  unfold uni compB
  rw [List.length_map]
  refine Nat.le_trans (compact_le _) ?_
  rw [List.length_map, sortB_length]
  exact Nat.le_refl _
/-- A list's numbers. -/
def nums (u l : List ByteArray) : List Int := l.map (fun s => (num u s : Int))
theorem nums_length (u l : List ByteArray) : (nums u l).length = l.length := by simp [nums]
theorem rdL6 (ls : List (List ByteArray)) (i : Nat) (h : i < ls.length) : rd_L6 ls (i : Int) = ls[i] := by unfold rd_L6; simp [h]
theorem ids_l1 (u : List ByteArray) (hu : Up u) (hul : u.length ≤ 1000000) (ls : List (List ByteArray)) (out : List (List Int)) (hout : out.length ≤ 1000000) (x18 : Int) (l : List ByteArray) (hl : l.length ≤ 1000000) (r : List (List Int)) (hE : Ev (fun k => token_Ids.l0 k u (out ++ [nums u l]) ls (ls.length : Int) (wrap64 (x18 + 1))) r) (d : Nat) :
    ∀ i : Nat, i + d = l.length → Ev (fun k => token_Ids.l1 k u out ((nums u l).take i ++ List.replicate (l.length - i) 0) ls (ls.length : Int) x18 l (l.length : Int) (i : Int)) r := by
  induction d with
  | zero =>
    intro i hi
    have z1 : ¬ (i : Int) < (l.length : Int) := by omega
    have z2 : out.length < 5864062014805 := by omega
    refine Ev.step (fun k => ?_) hE
    rw [token_Ids.l1, if_neg z1, if_pos z2, List.take_of_length_le (by rw [nums_length]; omega), show l.length - i = 0 by omega, List.replicate_zero, List.append_nil]
  | succ d ih =>
    intro i hi
    have hil : i < l.length := by omega
    have z1 : (i : Int) < (l.length : Int) := by omega
    have z2 : (0 : Int) ≤ (i : Int) := by omega
    have z3 : (i : Int) < (((nums u l).take i ++ List.replicate (l.length - i) 0).length : Int) := by rw [List.length_append, List.length_take, List.length_replicate, nums_length]; omega
    have w := oneI i (by omega)
    obtain ⟨b, hb⟩ := search_ev u l[i] hul hu
    have hs : ((nums u l).take i ++ List.replicate (l.length - i) 0).set i (num u l[i] : Int) = (nums u l).take (i + 1) ++ List.replicate (l.length - (i + 1)) 0 := by
      have hn : i < (nums u l).length := by rw [nums_length]; exact hil
      rw [List.take_succ_eq_append_getElem hn, List.set_append_right _ _ (by rw [List.length_take]; omega), List.length_take, Nat.min_eq_left (by omega), Nat.sub_self, show l.length - i = (l.length - (i + 1)) + 1 by omega, List.replicate_succ, List.set_cons_zero, List.append_assoc]
      simp [nums]
    refine Ev.step (f := fun k => (slices_BinarySearch_string_string.f k u l[i]).bind fun bt112 => (if (i : Int) < (((nums u l).take i ++ List.replicate (l.length - i) 0).length : Int) then (token_Ids.l1 k u out (((nums u l).take i ++ List.replicate (l.length - i) 0).set (i : Int).toNat bt112.1) ls (ls.length : Int) x18 l (l.length : Int) (wrap64 ((i : Int) + 1))) else none)) (fun k => ?_) (Ev.bind hb (Ev.congr (fun k => ?_) (ih (i + 1) (by clear w hs; omega))))
    · rw [token_Ids.l1, if_pos z1, if_pos z2, if_pos z1, rdB l i hil]
    · rw [if_pos z3, w, Int.toNat_natCast, hs]
theorem ids_l0 (u : List ByteArray) (hu : Up u) (hul : u.length ≤ 1000000) (ls : List (List ByteArray)) (hls : ls.length ≤ 1000) (hl : ∀ l ∈ ls, l.length ≤ 1000000) (d : Nat) :
    ∀ i : Nat, i + d = ls.length → Ev (fun k => token_Ids.l0 k u ((ls.take i).map (nums u)) ls (ls.length : Int) (i : Int)) (ls.map (nums u)) := by
  induction d with
  | zero =>
    intro i hi
    have z1 : ¬ (i : Int) < (ls.length : Int) := by omega
    refine ⟨1, fun k hk => ?_⟩
    obtain ⟨q, rfl⟩ : ∃ q, k = q + 1 := ⟨k - 1, (Nat.sub_add_cancel hk).symm⟩
    show token_Ids.l0 (q + 1) _ _ _ _ _ = _
    rw [token_Ids.l0, if_neg z1, List.take_of_length_le (by omega)]
  | succ d ih =>
    intro i hi
    have hil : i < ls.length := by omega
    have z1 : (i : Int) < (ls.length : Int) := by omega
    have z2 : (0 : Int) ≤ (i : Int) := by omega
    have hli := hl ls[i] (List.getElem_mem hil)
    have w := oneI i (by omega)
    have nx := ih (i + 1) (by clear w; omega)
    rw [← w, List.take_succ_eq_append_getElem hil, List.map_append] at nx
    have h1 := ids_l1 u hu hul ls ((ls.take i).map (nums u)) (by rw [List.length_map, List.length_take]; clear w; omega) (i : Int) ls[i] hli _ nx ls[i].length 0 (Nat.zero_add _)
    rw [List.take_zero, List.nil_append, Nat.sub_zero] at h1
    refine Ev.step (fun k => ?_) h1
    have g := rdL6 ls i hil
    have z3 : (0 : Int) ≤ (ls[i].length : Int) := Int.natCast_nonneg _
    have z4 : ls[i].length ≤ 35184372088832 := by clear w g; omega
    rw [token_Ids.l0, if_pos z1, if_pos z2, if_pos z1, g, if_pos z3, Int.toNat_natCast, if_pos z4]
    rfl
theorem Ids_ev (ls : List (List ByteArray)) (hls : ls.length ≤ 1000) (hf : ls.flatten.length ≤ 1000000) : Ev (fun k => token_Ids.f k ls) (ls.map (nums (uni ls))) := by
  have hul := uni_length ls
  have hl : ∀ l ∈ ls, l.length ≤ 1000000 := by
    intro l hlm
    have := (List.sublist_flatten_of_mem hlm).length_le
    omega
  have h0 := ids_l0 (uni ls) (uni_up ls) (by omega) ls hls hl ls.length 0 (Nat.zero_add _)
  refine Ev.congr (fun k => ?_) h0
  have e1 : slices_Concat_string_string.f ls = some ls.flatten := by unfold slices_Concat_string_string.f; rw [if_pos ⟨by omega, hf⟩]
  have e2 : slices_Sort_string_string.f ls.flatten = some () := by unfold slices_Sort_string_string.f; rw [if_pos (by omega)]
  rw [token_Ids.f, e1, Option.bind_some, e2, Option.bind_some]
  rfl
end Go.Proofs.Ytlkgdfeeepiidaa.TokI
