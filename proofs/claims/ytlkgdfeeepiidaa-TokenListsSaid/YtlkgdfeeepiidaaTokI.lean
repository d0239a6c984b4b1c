/- Texts in order: what Sort, Compact and BinarySearch make of them, in plain words. -/
import Derived.Test.YtlkgdfeeepiidaaXIds1
import Derived.Test.YtlkgdfeeepiidaaF60
import Derived.Test.YtlkgdfeeepiidaaF61
import Derived.Test.YtlkgdfeeepiidaaF47
import Derived.Sort.Walk0
namespace Go.Proofs.Ytlkgdfeeepiidaa.TokI
open Go.RowKit Go.Proofs.Ytlkgdfeeepiidaa.All Go.Proofs.Ytlkgdfeeepiidaa.XIds Go.Proofs.YtlkgdfeeepiidaaW.PrintWords Go.Proofs.YtlkgdfeeepiidaaW.PrintLast
theorem wrapI {x : Int} (h0 : -9223372036854775808 ≤ x) (h1 : x ≤ 9223372036854775807) : wrap64 x = x := by unfold wrap64; omega
theorem oneI (n : Nat) (h : n < 1000000000000) : wrap64 ((n : Int) + 1) = ((n + 1 : Nat) : Int) := by rw [wrapI (by omega) (by omega)]; omega
/-- A text stands ahead of another one. -/
def lt (a b : ByteArray) : Prop := Op.bytesLess a.toList b.toList = true
instance (a b : ByteArray) : Decidable (lt a b) := by unfold lt; infer_instance
theorem bl_irrefl : ∀ x : List UInt8, Op.bytesLess x x = false
  | [] => rfl
  | a :: x => by rw [Op.bytesLess, bl_irrefl x]; simp
theorem bl_trans : ∀ x y z : List UInt8, Op.bytesLess x y = true → Op.bytesLess y z = true → Op.bytesLess x z = true
  | _, [], _ => by intro h; cases ‹List UInt8› <;> simp [Op.bytesLess] at h
  | [], b :: y, [] => by intro _ h; simp [Op.bytesLess] at h
  | [], b :: y, c :: z => by intro _ _; rfl
  | a :: x, b :: y, [] => by intro _ h; simp [Op.bytesLess] at h
  | a :: x, b :: y, c :: z => by
    intro h1 h2
    simp only [Op.bytesLess, Bool.or_eq_true, Bool.and_eq_true, decide_eq_true_eq, beq_iff_eq] at h1 h2 ⊢
    rcases h1 with h1 | ⟨rfl, h1⟩
    · rcases h2 with h2 | ⟨rfl, h2⟩
      · exact Or.inl (UInt8.lt_trans h1 h2)
      · exact Or.inl h1
    · rcases h2 with h2 | ⟨rfl, h2⟩
      · exact Or.inl h2
      · exact Or.inr ⟨rfl, bl_trans x y z h1 h2⟩
theorem bl_tri : ∀ x y : List UInt8, Op.bytesLess x y = false → Op.bytesLess y x = false → x = y
  | [], [] => fun _ _ => rfl
  | [], b :: y => by intro h; simp [Op.bytesLess] at h
  | a :: x, [] => by intro _ h; simp [Op.bytesLess] at h
  | a :: x, b :: y => by
    intro h1 h2
    simp only [Op.bytesLess, Bool.or_eq_false_iff, Bool.and_eq_false_iff, decide_eq_false_iff_not, beq_eq_false_iff_ne] at h1 h2
    have hab : a = b := by
      rcases Classical.em (a = b) with h | h
      · exact h
      · rcases UInt8.lt_or_lt_of_ne h with h | h
        · exact absurd h h1.1
        · exact absurd h h2.1
    subst hab
    rw [bl_tri x y (h1.2.resolve_left (fun h => h rfl)) (h2.2.resolve_left (fun h => h rfl))]
theorem key_inj {a b : ByteArray} (h : a.toList = b.toList) : a = b := by
  rw [ByteArray.toList_eq, ByteArray.toList_eq] at h
  cases a; cases b
  congr 1
  exact Array.toList_inj.1 h
theorem lt_irrefl (a : ByteArray) : ¬ lt a a := by unfold lt; rw [bl_irrefl]; simp
theorem lt_trans {a b c : ByteArray} (h1 : lt a b) (h2 : lt b c) : lt a c := bl_trans _ _ _ h1 h2
theorem lt_asymm {a b : ByteArray} (h1 : lt a b) (h2 : lt b a) : False := lt_irrefl a (lt_trans h1 h2)
theorem lt_tri {a b : ByteArray} (h1 : ¬ lt a b) (h2 : ¬ lt b a) : a = b := key_inj (bl_tri _ _ (by unfold lt at h1; simpa using h1) (by unfold lt at h2; simpa using h2))
/-- A list that rises. -/
def Up (l : List ByteArray) : Prop := l.Pairwise lt
/-- How many stand ahead of a text. -/
structure IsAt (l : List ByteArray) (s : ByteArray) (n : Nat) : Prop where
  le : n ≤ l.length
  low : ∀ j (h : j < l.length), j < n → lt l[j] s
  high : ∀ j (h : j < l.length), n ≤ j → ¬ lt l[j] s
theorem IsAt.uniq {l : List ByteArray} {s : ByteArray} {n m : Nat} (h : IsAt l s n) (g : IsAt l s m) : n = m := by
  rcases Nat.lt_trichotomy n m with hl | hl | hl
  · exact absurd (g.low n (by have := g.le; omega) hl) (h.high n (by have := g.le; omega) (Nat.le_refl _))
  · exact hl
  · exact absurd (h.low m (by have := h.le; omega) hl) (g.high m (by have := h.le; omega) (Nat.le_refl _))
theorem up_lt {l : List ByteArray} (hu : Up l) {i j : Nat} (hi : i < l.length) (hj : j < l.length) (h : i < j) : lt l[i] l[j] := List.pairwise_iff_getElem.1 hu i j hi hj h
theorem isAt_exists : ∀ {l : List ByteArray}, Up l → ∀ s : ByteArray, ∃ n, IsAt l s n := by
  intro l
  induction l with
  | nil => intro _ s; exact ⟨0, Nat.le_refl _, fun j h => absurd h (by simp), fun j h => absurd h (by simp)⟩
  | cons a l ih =>
    intro hu s
    have hc := List.pairwise_cons.1 hu
    by_cases ha : lt a s
    · obtain ⟨n, hn⟩ := ih hc.2 s
      refine ⟨n + 1, by have := hn.le; simp; omega, ?_, ?_⟩
      · intro j h hj
        cases j with
        | zero => exact ha
        | succ j => rw [List.getElem_cons_succ]; exact hn.low j (by simpa using h) (by omega)
      · intro j h hj
        cases j with
        | zero => omega
        | succ j => rw [List.getElem_cons_succ]; exact hn.high j (by simpa using h) (by omega)
    · refine ⟨0, Nat.zero_le _, fun j h hj => absurd hj (Nat.not_lt_zero j), ?_⟩
      intro j h _
      cases j with
      | zero => exact ha
      | succ j =>
        rw [List.getElem_cons_succ]
        exact fun hc' => ha (lt_trans (hc.1 _ (List.getElem_mem _)) hc')
theorem at_mem {l : List ByteArray} (hu : Up l) {s : ByteArray} {n : Nat} (h : IsAt l s n) (hs : s ∈ l) : ∃ hn : n < l.length, l[n] = s := by
  obtain ⟨j, hj, rfl⟩ := List.getElem_of_mem hs
  have h1 : n ≤ j := by
    rcases Nat.lt_or_ge j n with hlt | hge
    · exact absurd (h.low j hj hlt) (lt_irrefl _)
    · exact hge
  have h2 : ¬ n < j := fun hlt => h.high n (by omega) (Nat.le_refl _) (up_lt hu (by omega) hj hlt)
  have : n = j := by omega
  subst this
  exact ⟨hj, rfl⟩
theorem at_iff {l : List ByteArray} (hu : Up l) {s t : ByteArray} {n m : Nat} (hn : IsAt l s n) (hm : IsAt l t m) (hs : s ∈ l) (ht : t ∈ l) : (s = t ↔ n = m) ∧ (lt s t ↔ n < m) := by
  obtain ⟨h1, e1⟩ := at_mem hu hn hs
  obtain ⟨h2, e2⟩ := at_mem hu hm ht
  refine ⟨⟨fun h => ?_, fun h => ?_⟩, ⟨fun h => ?_, fun h => ?_⟩⟩
  · subst h; exact hn.uniq hm
  · subst h; exact e1.symm.trans e2
  · rcases Nat.lt_or_ge n m with hlt | hge
    · exact hlt
    · exact absurd (by rw [e1]; exact h) (hm.high n h1 hge)
  · rw [← e1]; exact hm.low n h1 h
/-- Two lists that rise, of the same texts, are the same. -/
theorem up_eq : ∀ {l m : List ByteArray}, Up l → Up m → (∀ x, x ∈ l ↔ x ∈ m) → l = m := by
  intro l
  induction l with
  | nil =>
    intro m _ _ h
    cases m with
    | nil => rfl
    | cons b m => exact absurd ((h b).2 (List.mem_cons_self ..)) (by simp)
  | cons a l ih =>
    intro m hl hm h
    cases m with
    | nil => exact absurd ((h a).1 (List.mem_cons_self ..)) (by simp)
    | cons b m =>
      have hl' := List.pairwise_cons.1 hl
      have hm' := List.pairwise_cons.1 hm
      have hab : a = b := by
        rcases List.mem_cons.1 ((h a).1 (List.mem_cons_self ..)) with e | ha
        · exact e
        · rcases List.mem_cons.1 ((h b).2 (List.mem_cons_self ..)) with e | hb
          · exact e.symm
          · exact (lt_asymm (hm'.1 a ha) (hl'.1 b hb)).elim
      subst hab
      congr 1
      refine ih hl'.2 hm'.2 (fun x => ⟨fun hx => ?_, fun hx => ?_⟩)
      · rcases List.mem_cons.1 ((h x).1 (List.mem_cons_of_mem _ hx)) with rfl | hx'
        · exact absurd (hl'.1 x hx) (lt_irrefl x)
        · exact hx'
      · rcases List.mem_cons.1 ((h x).2 (List.mem_cons_of_mem _ hx)) with rfl | hx'
        · exact absurd (hm'.1 x hx) (lt_irrefl x)
        · exact hx'
end Go.Proofs.Ytlkgdfeeepiidaa.TokI
namespace Go.Proofs.Ytlkgdfeeepiidaa.TokI
open Go.RowKit Go.Proofs.Ytlkgdfeeepiidaa.All Go.Proofs.Ytlkgdfeeepiidaa.XIds Go.Proofs.YtlkgdfeeepiidaaW.PrintWords Go.Proofs.YtlkgdfeeepiidaaW.PrintLast
/-- How many of a list's texts stand ahead of a text. -/
def num (l : List ByteArray) (s : ByteArray) : Nat := (l.filter (fun x => decide (lt x s))).length
theorem num_cons (a : ByteArray) (l : List ByteArray) (s : ByteArray) : num (a :: l) s = if lt a s then num l s + 1 else num l s := by
  unfold num
  by_cases h : lt a s
  · rw [List.filter_cons_of_pos (by simpa using h), if_pos h, List.length_cons]
  · rw [List.filter_cons_of_neg (by simpa using h), if_neg h]
theorem num_zero : ∀ {l : List ByteArray} {s : ByteArray}, (∀ x ∈ l, ¬ lt x s) → num l s = 0 := by
  intro l s h
  unfold num
  rw [List.filter_eq_nil_iff.2 (fun x hx => by simpa using h x hx)]
  rfl
theorem isAt_num : ∀ {l : List ByteArray}, Up l → ∀ s, IsAt l s (num l s) := by
  intro l
  induction l with
  | nil => intro _ s; exact ⟨Nat.le_refl _, fun j h => absurd h (by simp), fun j h => absurd h (by simp)⟩
  | cons a l ih =>
    intro hu s
    have hc := List.pairwise_cons.1 hu
    rw [num_cons]
    by_cases ha : lt a s
    · rw [if_pos ha]
      have hn := ih hc.2 s
      refine ⟨by have := hn.le; simp; omega, ?_, ?_⟩
      · intro j h hj
        cases j with
        | zero => exact ha
        | succ j => rw [List.getElem_cons_succ]; exact hn.low j (by simpa using h) (by omega)
      · intro j h hj
        cases j with
        | zero => omega
        | succ j => rw [List.getElem_cons_succ]; exact hn.high j (by simpa using h) (by omega)
    · rw [if_neg ha]
      have hall : ∀ x ∈ l, ¬ lt x s := fun x hx hc' => ha (lt_trans (hc.1 x hx) hc')
      rw [num_zero hall]
      refine ⟨Nat.zero_le _, fun j h hj => absurd hj (Nat.not_lt_zero j), ?_⟩
      intro j h _
      cases j with
      | zero => exact ha
      | succ j => rw [List.getElem_cons_succ]; exact hall _ (List.getElem_mem _)
theorem num_le (l : List ByteArray) (s : ByteArray) : num l s ≤ l.length := List.length_filter_le _ _
theorem rdB (l : List ByteArray) (i : Nat) (h : i < l.length) : rdOf ByteArray.empty l (i : Int) = l[i] := by unfold rdOf; simp [h]
theorem isNaN_is (s : ByteArray) : slices_isNaN_string.f s = some false := by unfold slices_isNaN_string.f; simp
theorem less_is (a b : ByteArray) : cmp_Less_string.f a b = some (decide (lt a b)) := by
  unfold cmp_Less_string.f cmp_isNaN_string.f
  by_cases h : Op.bytesLess a.toList b.toList = true <;> simp [lt, h]
/-- Halving finds the place. -/
theorem search_l0 (l : List ByteArray) (s : ByteArray) (hl : l.length ≤ 1000000) (hu : Up l) (d : Nat) : ∀ i j : Nat, j - i = d → i ≤ num l s → num l s ≤ j → j ≤ l.length → ∃ b, Ev (fun k => slices_BinarySearch_string_string.l0 k l s (l.length : Int) (i : Int) (j : Int)) ((num l s : Int), b) := by
  have ha := isAt_num hu s
  induction d using Nat.strongRecOn with
  | ind d ih =>
    intro i j hd hi hj hjl
    by_cases hij : i < j
    · have z1 : (i : Int) < (j : Int) := by omega
      have m1 : wrap64 ((i : Int) + (j : Int)) = ((i + j : Nat) : Int) := by rw [wrapI (by omega) (by omega)]; omega
      have m2 : IntKind.u64.wrap ((i + j : Nat) : Int) = ((i + j : Nat) : Int) := by rw [IntKind.wrap_u64]; clear m1; omega
      have m3 : wrap64 (((i + j : Nat) : Int) / 2) = (((i + j) / 2 : Nat) : Int) := by clear m1 m2; rw [wrapI (by omega) (by omega)]; omega
      have m4 : wrap64 ((((i + j) / 2 : Nat) : Int) + 1) = (((i + j) / 2 + 1 : Nat) : Int) := oneI _ (by clear m1 m2 m3; omega)
      have h1 : i ≤ (i + j) / 2 := by clear m1 m2 m3 m4; omega
      have h2 : (i + j) / 2 < j := by clear m1 m2 m3 m4; omega
      have z2 : (0 : Int) ≤ (((i + j) / 2 : Nat) : Int) := by clear m1 m2 m3 m4; omega
      have z3 : (((i + j) / 2 : Nat) : Int) < (l.length : Int) := by clear m1 m2 m3 m4; omega
      have hml : (i + j) / 2 < l.length := by clear m1 m2 m3 m4; omega
      have g := rdB l ((i + j) / 2) hml
      by_cases hlt : lt l[(i + j) / 2] s
      · have hge : (i + j) / 2 + 1 ≤ num l s := by
          rcases Nat.lt_or_ge ((i + j) / 2) (num l s) with h | h
          · exact h
          · exact absurd hlt (ha.high _ hml h)
        obtain ⟨b, hb⟩ := ih (j - ((i + j) / 2 + 1)) (by clear m1 m2 m3 m4 g; omega) ((i + j) / 2 + 1) j rfl hge hj hjl
        refine ⟨b, Ev.step (fun k => ?_) hb⟩
        rw [slices_BinarySearch_string_string.l0, if_pos z1, m1, m2, m3, if_pos z2, if_pos z3, g, less_is, Option.bind_some, decide_eq_true hlt, if_pos rfl, m4]
      · have hle : num l s ≤ (i + j) / 2 := by
          rcases Nat.lt_or_ge ((i + j) / 2) (num l s) with h | h
          · exact absurd (ha.low _ hml h) hlt
          · exact h
        obtain ⟨b, hb⟩ := ih ((i + j) / 2 - i) (by clear m1 m2 m3 m4 g; omega) i ((i + j) / 2) rfl hi hle (by clear m1 m2 m3 m4 g; omega)
        refine ⟨b, Ev.step (fun k => ?_) hb⟩
        rw [slices_BinarySearch_string_string.l0, if_pos z1, m1, m2, m3, if_pos z2, if_pos z3, g, less_is, Option.bind_some, decide_eq_false hlt, if_neg Bool.false_ne_true]
    · have z1 : ¬ (i : Int) < (j : Int) := by omega
      have hin : i = num l s := by omega
      rw [← hin]
      by_cases hil : i < l.length
      · have z2 : (i : Int) < (l.length : Int) := by omega
        have z3 : (0 : Int) ≤ (i : Int) := by omega
        have g := rdB l i hil
        refine ⟨decide (l[i].toList = s.toList), 1, fun k hk => ?_⟩
        obtain ⟨q, rfl⟩ : ∃ q, k = q + 1 := ⟨k - 1, (Nat.sub_add_cancel hk).symm⟩
        show slices_BinarySearch_string_string.l0 (q + 1) _ _ _ _ _ = _
        rw [slices_BinarySearch_string_string.l0, if_neg z1, if_pos z2, if_pos z3, if_pos z2, g, isNaN_is, Option.bind_some, if_neg Bool.false_ne_true]
        split
        · rename_i h; simp [h]
        · rename_i h; simp [h]
      · have z2 : ¬ (i : Int) < (l.length : Int) := by omega
        refine ⟨false, 1, fun k hk => ?_⟩
        obtain ⟨q, rfl⟩ : ∃ q, k = q + 1 := ⟨k - 1, (Nat.sub_add_cancel hk).symm⟩
        show slices_BinarySearch_string_string.l0 (q + 1) _ _ _ _ _ = _
        rw [slices_BinarySearch_string_string.l0, if_neg z1, if_neg z2]
theorem search_ev (l : List ByteArray) (s : ByteArray) (hl : l.length ≤ 1000000) (hu : Up l) : ∃ b, Ev (fun k => slices_BinarySearch_string_string.f k l s) ((num l s : Int), b) :=
  search_l0 l s hl hu _ 0 l.length rfl (Nat.zero_le _) (num_le l s) (Nat.le_refl _)
/-- The document's way: one by one. -/
theorem at_ev (l : List ByteArray) (s : ByteArray) (hl : l.length ≤ 1000000) (hu : Up l) : Ev (fun k => emendationref03_at.f k l s) (num l s : Int) := by
  have ha := isAt_num hu s
  have h0 : ∀ (d i : Nat), i + d = num l s → Ev (fun k => emendationref03_at.l0 k l s (i : Int)) (num l s : Int) := by
    intro d
    induction d with
    | zero =>
      intro i hi
      have hin : i = num l s := by omega
      rw [← hin]
      refine ⟨1, fun k hk => ?_⟩
      obtain ⟨q, rfl⟩ : ∃ q, k = q + 1 := ⟨k - 1, (Nat.sub_add_cancel hk).symm⟩
      show emendationref03_at.l0 (q + 1) _ _ _ = _
      by_cases hil : i < l.length
      · have z1 : (i : Int) < (l.length : Int) := by omega
        have z2 : (0 : Int) ≤ (i : Int) := by omega
        have hn : ¬ Op.bytesLess l[i].toList s.toList = true := ha.high i hil (by omega)
        rw [emendationref03_at.l0, if_pos z1, if_pos z2, rdB l i hil, if_neg hn]
      · have z1 : ¬ (i : Int) < (l.length : Int) := by omega
        rw [emendationref03_at.l0, if_neg z1]
    | succ d ih =>
      intro i hi
      have hle := ha.le
      have hil : i < l.length := by omega
      have z1 : (i : Int) < (l.length : Int) := by omega
      have z2 : (0 : Int) ≤ (i : Int) := by omega
      have hn : Op.bytesLess l[i].toList s.toList = true := ha.low i hil (by omega)
      have w := oneI i (by omega)
      refine Ev.step (fun k => ?_) (ih (i + 1) (by clear w; omega))
      rw [emendationref03_at.l0, if_pos z1, if_pos z2, rdB l i hil, if_pos hn, w]
  exact h0 (num l s) 0 (Nat.zero_add _)
/-- Put in where it belongs. -/
noncomputable def ins (l : List ByteArray) (s : ByteArray) : List ByteArray := open Classical in if s ∈ l then l else l.take (num l s) ++ [s] ++ l.drop (num l s)
theorem ins_mem (l : List ByteArray) (s x : ByteArray) : x ∈ ins l s ↔ x = s ∨ x ∈ l := by
  unfold ins
  by_cases h : s ∈ l
  · rw [if_pos h]
    exact ⟨Or.inr, fun hx => hx.elim (fun e => e ▸ h) id⟩
  · rw [if_neg h]
    have e : x ∈ l ↔ x ∈ l.take (num l s) ∨ x ∈ l.drop (num l s) := by rw [← List.mem_append, List.take_append_drop]
    rw [e]
    simp only [List.mem_append, List.mem_singleton]
    constructor
    · rintro ((h1 | h1) | h1)
      · exact Or.inr (Or.inl h1)
      · exact Or.inl h1
      · exact Or.inr (Or.inr h1)
    · rintro (h1 | h1 | h1)
      · exact Or.inl (Or.inr h1)
      · exact Or.inl (Or.inl h1)
      · exact Or.inr h1
theorem ins_length (l : List ByteArray) (s : ByteArray) : (ins l s).length ≤ l.length + 1 := by
  unfold ins
  split
  · omega
  · simp; have := num_le l s; omega
theorem ins_up {l : List ByteArray} (hu : Up l) (s : ByteArray) : Up (ins l s) := by
  unfold ins
  by_cases h : s ∈ l
  · rw [if_pos h]; exact hu
  · rw [if_neg h]
    have ha := isAt_num hu s
    have hlow : ∀ x ∈ l.take (num l s), lt x s := by
      intro x hx
      obtain ⟨j, hj, rfl⟩ := List.getElem_of_mem hx
      rw [List.length_take] at hj
      rw [List.getElem_take]
      exact ha.low j (by omega) (by omega)
    have hhigh : ∀ x ∈ l.drop (num l s), lt s x := by
      intro x hx
      obtain ⟨j, hj, rfl⟩ := List.getElem_of_mem hx
      rw [List.length_drop] at hj
      rw [List.getElem_drop]
      have h1 := ha.high (num l s + j) (by omega) (by omega)
      by_cases h2 : lt s l[num l s + j]
      · exact h2
      · exact absurd (lt_tri h2 h1 ▸ List.getElem_mem _) h
    unfold Up
    rw [List.append_assoc, List.pairwise_append]
    refine ⟨List.Pairwise.sublist (List.take_sublist _ _) hu, ?_, ?_⟩
    · rw [List.singleton_append, List.pairwise_cons]
      exact ⟨hhigh, List.Pairwise.sublist (List.drop_sublist _ _) hu⟩
    · intro a ha' b hb
      rcases List.mem_append.1 hb with hb | hb
      · rw [List.mem_singleton.1 hb]; exact hlow a ha'
      · exact lt_trans (hlow a ha') (hhigh b hb)
theorem put_ev (l : List ByteArray) (s : ByteArray) (hl : l.length ≤ 100000) (hu : Up l) : Ev (fun k => emendationref03_put.f k l s) (ins l s) := by
  have ha := isAt_num hu s
  have hle := num_le l s
  refine Ev.bind (at_ev l s (by omega) hu) ⟨0, fun k _ => ?_⟩
  have z0 : (0 : Int) ≤ (num l s : Int) := by omega
  have z1 : (num l s : Int) ≤ (l.length : Int) := by omega
  have y1 : 0 + (l.take (num l s)).length < 8796093022208 := by rw [List.length_take]; omega
  have y2 : (l.take (num l s)).length < 8796093022208 := by rw [List.length_take]; omega
  have y3 : (l.take (num l s) ++ [s]).length + (l.drop (num l s)).length < 8796093022208 := by simp; omega
  by_cases hlt : num l s < l.length
  · have z2 : (num l s : Int) < (l.length : Int) := by omega
    have g := rdB l (num l s) hlt
    by_cases he : l[num l s].toList = s.toList
    · have hm : s ∈ l := by rw [← key_inj he]; exact List.getElem_mem _
      rw [if_pos z2, if_pos z0, g, if_pos he]
      unfold ins
      rw [if_pos hm]
    · have hm : s ∉ l := by
        intro hm
        obtain ⟨hn, e⟩ := at_mem hu ha hm
        exact he (by rw [e])
      rw [if_pos z2, if_pos z0, g, if_neg he, if_pos z1]
      simp only [Option.bind_some, Int.toNat_natCast, List.length_nil, List.nil_append, if_pos y1, if_pos y2, if_pos y3]
      unfold ins
      rw [if_neg hm]
  · have z2 : ¬ (num l s : Int) < (l.length : Int) := by omega
    have hm : s ∉ l := by
      intro hm
      obtain ⟨hn, e⟩ := at_mem hu ha hm
      omega
    rw [if_neg z2, if_pos z0, if_pos z1]
    simp only [Option.bind_some, Int.toNat_natCast, List.length_nil, List.nil_append, if_pos y1, if_pos y2, if_pos y3]
    unfold ins
    rw [if_neg hm]
end Go.Proofs.Ytlkgdfeeepiidaa.TokI
