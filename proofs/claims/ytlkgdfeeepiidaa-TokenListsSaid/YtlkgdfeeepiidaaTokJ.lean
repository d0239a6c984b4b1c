/- token.Ids, and the document's, tell for each text how many unlike ones stand ahead. -/
import Derived.Test.YtlkgdfeeepiidaaTokI
namespace Go.Proofs.Ytlkgdfeeepiidaa.TokI
open Go.RowKit Go.Proofs.Ytlkgdfeeepiidaa.All Go.Proofs.Ytlkgdfeeepiidaa.XIds Go.Proofs.YtlkgdfeeepiidaaW.PrintWords Go.Proofs.YtlkgdfeeepiidaaW.PrintLast
/-! Sorted, each once. -/
def ltL (x y : List UInt8) : Prop := Op.bytesLess x y = true
theorem le_bl (x y : List UInt8) : decide (x ≤ y) = !Op.bytesLess y x := by
  rw [Go.Proofs.bytesLess_eq]
  by_cases h : y < x
  · have : ¬ x ≤ y := fun hh => hh h
    simp [h, this]
  · have : x ≤ y := h
    simp [h, this]
theorem sorted_pw (l : List (List UInt8)) : (l.mergeSort fun x y => decide (x ≤ y)).Pairwise (fun x y => Op.bytesLess y x = false) := by
  have h := List.pairwise_mergeSort (le := fun x y : List UInt8 => decide (x ≤ y)) ?_ ?_ l
  · refine h.imp (fun {a b} hab => ?_)
    rw [le_bl] at hab
    simpa using hab
  · intro a b c h1 h2
    rw [le_bl] at h1 h2 ⊢
    simp only [Bool.not_eq_true'] at h1 h2 ⊢
    cases h3 : Op.bytesLess c a with
    | false => rfl
    | true =>
      cases h4 : Op.bytesLess a b with
      | true => have := bl_trans _ _ _ h3 h4; rw [h2] at this; cases this
      | false =>
        have e := bl_tri _ _ h4 h1
        subst e
        rw [h2] at h3; cases h3
  · intro a b
    rw [le_bl, le_bl]
    cases h1 : Op.bytesLess b a with
    | false => rfl
    | true =>
      cases h2 : Op.bytesLess a b with
      | false => rfl
      | true => have := bl_trans _ _ _ h1 h2; rw [bl_irrefl] at this; cases this
theorem compact_inv (d : Array (List UInt8)) (hs : d.toList.Pairwise (fun x y => Op.bytesLess y x = false)) (m : Nat) (hm : m + 1 ≤ d.size) :
    (Lib.compactUpTo d (m + 1)).Pairwise ltL ∧ (∀ x ∈ Lib.compactUpTo d (m + 1), x = d[m]! ∨ ltL x d[m]!) ∧ (∀ x, x ∈ Lib.compactUpTo d (m + 1) ↔ x ∈ d.toList.take (m + 1)) := by
  induction m with
  | zero =>
    have h1 : Lib.compactUpTo d 1 = [d[0]!] := by
      rw [Lib.compactUpTo_succ, Lib.keeps_lt_one d 0 (by omega)]
      rfl
    rw [h1]
    refine ⟨List.pairwise_singleton _ _, fun x hx => Or.inl (List.mem_singleton.1 hx), fun x => ?_⟩
    have : d.toList.take 1 = [d[0]!] := by
      have h0 : 0 < d.toList.length := by rw [Array.length_toList]; omega
      rw [List.take_succ_eq_append_getElem h0, List.take_zero, List.nil_append, getElem!_pos d 0 (by simpa using h0)]
      rfl
    rw [this]
  | succ m ih =>
    obtain ⟨i1, i2, i3⟩ := ih (by omega)
    have hlt : m + 1 < d.toList.length := by rw [Array.length_toList]; omega
    have hlt0 : m < d.toList.length := by omega
    have e1 : d[m + 1]! = d.toList[m + 1] := by rw [getElem!_pos d (m + 1) (by simpa using hlt)]; rfl
    have e0 : d[m]! = d.toList[m] := by rw [getElem!_pos d m (by simpa using hlt0)]; rfl
    have hle : Op.bytesLess d[m + 1]! d[m]! = false := by
      rw [e1, e0]
      exact List.pairwise_iff_getElem.1 hs m (m + 1) hlt0 hlt (by omega)
    have ht : d.toList.take (m + 1 + 1) = d.toList.take (m + 1) ++ [d[m + 1]!] := by rw [List.take_succ_eq_append_getElem hlt, e1]
    rw [Lib.compactUpTo_succ, ht]
    by_cases hk : d[m + 1]! = d[m]!
    · rw [Lib.keeps_neg (d := d) (m := m + 1) (by omega) (by simpa using hk)]
      rw [if_neg Bool.false_ne_true, List.append_nil]
      refine ⟨i1, by rw [hk]; exact i2, fun x => ?_⟩
      rw [i3, List.mem_append, List.mem_singleton]
      constructor
      · exact Or.inl
      · rintro (h | h)
        · exact h
        · rw [h, hk, e0]
          exact List.mem_take_iff_getElem.2 ⟨m, by simp; omega, rfl⟩
    · rw [Lib.keeps_pos (d := d) (m := m + 1) (by simpa using hk), if_pos rfl]
      have hl : ltL d[m]! d[m + 1]! := by
        unfold ltL
        cases h : Op.bytesLess d[m]! d[m + 1]! with
        | true => rfl
        | false => exact absurd (bl_tri _ _ hle h) hk
      have hall : ∀ x ∈ Lib.compactUpTo d (m + 1), ltL x d[m + 1]! := by
        intro x hx
        rcases i2 x hx with h | h
        · rw [h]; exact hl
        · exact bl_trans _ _ _ h hl
      refine ⟨?_, ?_, fun x => ?_⟩
      · rw [List.pairwise_append]
        exact ⟨i1, List.pairwise_singleton _ _, fun a ha b hb => by rw [List.mem_singleton.1 hb]; exact hall a ha⟩
      · intro x hx
        rcases List.mem_append.1 hx with h | h
        · exact Or.inr (hall x h)
        · exact Or.inl (List.mem_singleton.1 h)
      · rw [List.mem_append, List.mem_append, i3]
theorem compact_sorted (l : List (List UInt8)) (hs : l.Pairwise (fun x y => Op.bytesLess y x = false)) : (Lib.compact l).Pairwise ltL ∧ ∀ x, x ∈ Lib.compact l ↔ x ∈ l := by
  unfold Lib.compact
  cases hl : l with
  | nil => exact ⟨by simp [Lib.compactUpTo], fun x => by simp [Lib.compactUpTo]⟩
  | cons a l' =>
    rw [← hl]
    have hlen : l.length = (l.length - 1) + 1 := by rw [hl]; simp
    have h := compact_inv l.toArray (by simpa using hs) (l.length - 1) (by simp; omega)
    rw [← hlen] at h
    refine ⟨h.1, fun x => ?_⟩
    rw [h.2.2 x]
    simp
/-- The texts of some lists, in order, each once. -/
def uni (ls : List (List ByteArray)) : List ByteArray := compB (sortB ls.flatten)
theorem toL_key (s : ByteArray) : toL s = s.toList := (ByteArray.toList_eq s).symm
theorem ofL_key (l : List UInt8) : (ofL l).toList = l := by rw [ByteArray.toList_eq]; rfl
theorem uni_up (ls : List (List ByteArray)) : Up (uni ls) := by
  unfold uni compB Up
  have e : (sortB ls.flatten).map toL = (ls.flatten.map toL).mergeSort fun x y => decide (x ≤ y) := by
    unfold sortB
    rw [List.map_map]
    exact (List.map_congr_left (fun x _ => rfl)).trans (List.map_id _)
  rw [e, List.pairwise_map]
  refine (compact_sorted _ (sorted_pw _)).1.imp (fun {a b} h => ?_)
  unfold lt
  rw [ofL_key, ofL_key]
  exact h
theorem uni_mem (ls : List (List ByteArray)) (s : ByteArray) : s ∈ uni ls ↔ s ∈ ls.flatten := by
  unfold uni compB
  have e : (sortB ls.flatten).map toL = (ls.flatten.map toL).mergeSort fun x y => decide (x ≤ y) := by
    unfold sortB
    rw [List.map_map]
    exact (List.map_congr_left (fun x _ => rfl)).trans (List.map_id _)
  rw [e, List.mem_map]
  constructor
  · rintro ⟨x, hx, rfl⟩
    rw [(compact_sorted _ (sorted_pw _)).2, List.mem_mergeSort, List.mem_map] at hx
    obtain ⟨y, hy, rfl⟩ := hx
    exact hy
  · intro hs
    refine ⟨toL s, ?_, rfl⟩
    rw [(compact_sorted _ (sorted_pw _)).2, List.mem_mergeSort, List.mem_map]
    exact ⟨s, hs, rfl⟩
theorem uni_length (ls : List (List ByteArray)) : (uni ls).length ≤ ls.flatten.length := by
  unfold uni compB
  rw [List.length_map]
  refine Nat.le_trans (compact_le _) ?_
  rw [List.length_map, sortB_length]
  exact Nat.le_refl _
/-- A list's numbers. -/
def nums (u l : List ByteArray) : List Int := l.map (fun s => (num u s : Int))
theorem nums_length (u l : List ByteArray) : (nums u l).length = l.length := by simp [nums]
theorem rdL6 (ls : List (List ByteArray)) (i : Nat) (h : i < ls.length) : rd_L6 ls (i : Int) = ls[i] := by unfold rd_L6; simp [h]
theorem ids_l1 (u : List ByteArray) (hu : Up u) (hul : u.length ≤ 1000000) (ls : List (List ByteArray)) (out : List (List Int)) (hout : out.length ≤ 1000000) (x18 : Int) (l : List ByteArray) (hl : l.length ≤ 1000000) (r : List (List Int)) (hE : Ev (fun k => token_Ids.l0 k u (out ++ [nums u l]) ls (ls.length : Int) (wrap64 (x18 + 1))) r) (d : Nat) :
    ∀ i : Nat, i + d = l.length → Ev (fun k => token_Ids.l1 k u out ((nums u l).take i ++ List.replicate (l.length - i) 0) ls (ls.length : Int) x18 l (l.length : Int) (i : Int)) r := by
  induction d with
  | zero =>
    intro i hi
    have z1 : ¬ (i : Int) < (l.length : Int) := by omega
    have z2 : out.length < 5864062014805 := by omega
    refine Ev.step (fun k => ?_) hE
    rw [token_Ids.l1, if_neg z1, if_pos z2, List.take_of_length_le (by rw [nums_length]; omega), show l.length - i = 0 by omega, List.replicate_zero, List.append_nil]
  | succ d ih =>
    intro i hi
    have hil : i < l.length := by omega
    have z1 : (i : Int) < (l.length : Int) := by omega
    have z2 : (0 : Int) ≤ (i : Int) := by omega
    have z3 : (i : Int) < (((nums u l).take i ++ List.replicate (l.length - i) 0).length : Int) := by rw [List.length_append, List.length_take, List.length_replicate, nums_length]; omega
    have w := oneI i (by omega)
    obtain ⟨b, hb⟩ := search_ev u l[i] hul hu
    have hs : ((nums u l).take i ++ List.replicate (l.length - i) 0).set i (num u l[i] : Int) = (nums u l).take (i + 1) ++ List.replicate (l.length - (i + 1)) 0 := by
      have hn : i < (nums u l).length := by rw [nums_length]; exact hil
      rw [List.take_succ_eq_append_getElem hn, List.set_append_right _ _ (by rw [List.length_take]; omega), List.length_take, Nat.min_eq_left (by omega), Nat.sub_self, show l.length - i = (l.length - (i + 1)) + 1 by omega, List.replicate_succ, List.set_cons_zero, List.append_assoc]
      simp [nums]
    refine Ev.step (f := fun k => (slices_BinarySearch_string_string.f k u l[i]).bind fun bt112 => (if (i : Int) < (((nums u l).take i ++ List.replicate (l.length - i) 0).length : Int) then (token_Ids.l1 k u out (((nums u l).take i ++ List.replicate (l.length - i) 0).set (i : Int).toNat bt112.1) ls (ls.length : Int) x18 l (l.length : Int) (wrap64 ((i : Int) + 1))) else none)) (fun k => ?_) (Ev.bind hb (Ev.congr (fun k => ?_) (ih (i + 1) (by clear w hs; omega))))
    · rw [token_Ids.l1, if_pos z1, if_pos z2, if_pos z1, rdB l i hil]
    · rw [if_pos z3, w, Int.toNat_natCast, hs]
theorem ids_l0 (u : List ByteArray) (hu : Up u) (hul : u.length ≤ 1000000) (ls : List (List ByteArray)) (hls : ls.length ≤ 1000) (hl : ∀ l ∈ ls, l.length ≤ 1000000) (d : Nat) :
    ∀ i : Nat, i + d = ls.length → Ev (fun k => token_Ids.l0 k u ((ls.take i).map (nums u)) ls (ls.length : Int) (i : Int)) (ls.map (nums u)) := by
  induction d with
  | zero =>
    intro i hi
    have z1 : ¬ (i : Int) < (ls.length : Int) := by omega
    refine ⟨1, fun k hk => ?_⟩
    obtain ⟨q, rfl⟩ : ∃ q, k = q + 1 := ⟨k - 1, (Nat.sub_add_cancel hk).symm⟩
    show token_Ids.l0 (q + 1) _ _ _ _ _ = _
    rw [token_Ids.l0, if_neg z1, List.take_of_length_le (by omega)]
  | succ d ih =>
    intro i hi
    have hil : i < ls.length := by omega
    have z1 : (i : Int) < (ls.length : Int) := by omega
    have z2 : (0 : Int) ≤ (i : Int) := by omega
    have hli := hl ls[i] (List.getElem_mem hil)
    have w := oneI i (by omega)
    have nx := ih (i + 1) (by clear w; omega)
    rw [← w, List.take_succ_eq_append_getElem hil, List.map_append] at nx
    have h1 := ids_l1 u hu hul ls ((ls.take i).map (nums u)) (by rw [List.length_map, List.length_take]; clear w; omega) (i : Int) ls[i] hli _ nx ls[i].length 0 (Nat.zero_add _)
    rw [List.take_zero, List.nil_append, Nat.sub_zero] at h1
    refine Ev.step (fun k => ?_) h1
    have g := rdL6 ls i hil
    have z3 : (0 : Int) ≤ (ls[i].length : Int) := Int.natCast_nonneg _
    have z4 : ls[i].length ≤ 35184372088832 := by clear w g; omega
    rw [token_Ids.l0, if_pos z1, if_pos z2, if_pos z1, g, if_pos z3, Int.toNat_natCast, if_pos z4]
    rfl
theorem Ids_ev (ls : List (List ByteArray)) (hls : ls.length ≤ 1000) (hf : ls.flatten.length ≤ 1000000) : Ev (fun k => token_Ids.f k ls) (ls.map (nums (uni ls))) := by
  have hul := uni_length ls
  have hl : ∀ l ∈ ls, l.length ≤ 1000000 := by
    intro l hlm
    have := (List.sublist_flatten_of_mem hlm).length_le
    omega
  have h0 := ids_l0 (uni ls) (uni_up ls) (by omega) ls hls hl ls.length 0 (Nat.zero_add _)
  refine Ev.congr (fun k => ?_) h0
  have e1 : slices_Concat_string_string.f ls = some ls.flatten := by unfold slices_Concat_string_string.f; rw [if_pos ⟨by omega, hf⟩]
  have e2 : slices_Sort_string_string.f ls.flatten = some () := by unfold slices_Sort_string_string.f; rw [if_pos (by omega)]
  rw [token_Ids.f, e1, Option.bind_some, e2, Option.bind_some]
  rfl
end Go.Proofs.Ytlkgdfeeepiidaa.TokI
