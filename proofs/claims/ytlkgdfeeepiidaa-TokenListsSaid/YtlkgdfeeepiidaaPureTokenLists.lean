/- The plain law of TokenLists: the numbers of lists of texts, of the same lists the same, none below nought, and all below the count of the texts that differ. No condition. -/
import Derived.Test.YtlkgdfeeepiidaaF24
import Derived.Test.YtlkgdfeeepiidaaTokK
namespace Go.Proofs.Ytlkgdfeeepiidaa.Pure
open Go.RowKit Go.Proofs.Ytlkgdfeeepiidaa.All Go.Proofs.Ytlkgdfeeepiidaa.TokI Go.Proofs.YtlkgdfeeepiidaaW.PrintWords Go.Proofs.YtlkgdfeeepiidaaW.PrintLast
namespace Lists
theorem len_le (l : List ByteArray) : ∀ m : List ByteArray, l.Nodup → (∀ x ∈ l, x ∈ m) → l.length ≤ m.length := by
  induction l with
  | nil => intro m _ _; exact Nat.zero_le _
  | cons a l ih =>
    intro m hn hs
    have hc := List.nodup_cons.1 hn
    have ham : a ∈ m := hs a (List.mem_cons_self ..)
    have h := ih (m.filter (fun x => decide (x ≠ a))) hc.2 (fun x hx => by
      have hne : x ≠ a := fun he => hc.1 (he ▸ hx)
      exact List.mem_filter.2 ⟨hs x (List.mem_cons_of_mem _ hx), decide_eq_true hne⟩)
    have hp : (m.filter (fun x => decide (x ≠ a))).length < m.length := List.length_filter_lt_length_iff_exists.2 ⟨a, ham, by simp⟩
    rw [List.length_cons]
    omega
theorem up_nodup {l : List ByteArray} (h : Up l) : l.Nodup := by
  unfold Up at h
  exact h.imp (fun {a b} hab he => by subst he; exact lt_irrefl _ hab)
theorem rdL3 (ls : List (List Int)) (i : Nat) (h : i < ls.length) : rd_L3 ls (i : Int) = ls[i] := by unfold rd_L3; simp [h]
theorem key_ne (s t : ByteArray) : (s.toList != t.toList) = decide (s ≠ t) := by
  by_cases h : s = t
  · subst h; simp
  · have : ¬ s.toList = t.toList := fun hh => h (key_inj hh)
    simp [h, this]
theorem take_mem (l : List ByteArray) (i : Nat) (h : i < l.length) (x : ByteArray) : x ∈ l.take (i + 1) ↔ x ∈ l.take i ∨ x = l[i] := by
  rw [List.take_succ_eq_append_getElem h, List.mem_append, List.mem_singleton]
theorem l3_ev (m : Int) (ls : List (List Int)) (n q : Int) (l : List Int) (hl : l.length ≤ 1000000) (hv : ∀ v ∈ l, 0 ≤ v ∧ v < m) (nx : Ev (fun k => emendationlaw03_TokenLists.l2 k m ls n (wrap64 (q + 1))) true) (d : Nat) :
    ∀ j : Nat, j + d = l.length → Ev (fun k => emendationlaw03_TokenLists.l3 k m l ls n q (l.length : Int) (j : Int)) true := by
  induction d with
  | zero =>
    intro j hj
    have z : ¬ (j : Int) < (l.length : Int) := by omega
    refine Ev.step (fun k => ?_) nx
    rw [emendationlaw03_TokenLists.l3, if_neg z]
  | succ d ih =>
    intro j hj
    have hjl : j < l.length := by omega
    have z1 : (j : Int) < (l.length : Int) := by omega
    have z2 : (0 : Int) ≤ (j : Int) := by omega
    obtain ⟨v0, v1⟩ := hv _ (List.getElem_mem hjl)
    have w := oneI j (by omega)
    refine Ev.step (fun k => ?_) (ih (j + 1) (by clear w v0 v1; omega))
    rw [emendationlaw03_TokenLists.l3, if_pos z1, if_pos z2, if_pos z1, rdI l j hjl, if_neg (by omega), if_neg (by omega), w]
theorem l2_ev (m : Int) (ls : List (List Int)) (hls : ls.length ≤ 1000) (hl : ∀ l ∈ ls, l.length ≤ 1000000) (hv : ∀ l ∈ ls, ∀ v ∈ l, 0 ≤ v ∧ v < m) (d : Nat) :
    ∀ j : Nat, j + d = ls.length → Ev (fun k => emendationlaw03_TokenLists.l2 k m ls (ls.length : Int) (j : Int)) true := by
  induction d with
  | zero =>
    intro j hj
    have z : ¬ (j : Int) < (ls.length : Int) := by omega
    refine ⟨1, fun k hk => ?_⟩
    obtain ⟨q, rfl⟩ : ∃ q, k = q + 1 := ⟨k - 1, (Nat.sub_add_cancel hk).symm⟩
    show emendationlaw03_TokenLists.l2 (q + 1) _ _ _ _ = _
    rw [emendationlaw03_TokenLists.l2, if_neg z]
  | succ d ih =>
    intro j hj
    have hjl : j < ls.length := by omega
    have z1 : (j : Int) < (ls.length : Int) := by omega
    have z2 : (0 : Int) ≤ (j : Int) := by omega
    have w := oneI j (by omega)
    have hin := List.getElem_mem hjl
    have h3 := l3_ev m ls (ls.length : Int) (j : Int) ls[j] (hl _ hin) (hv _ hin) (by rw [w]; exact ih (j + 1) (by clear w; omega)) ls[j].length 0 (Nat.zero_add _)
    refine Ev.step (fun k => ?_) h3
    rw [emendationlaw03_TokenLists.l2, if_pos z1, if_pos z2, if_pos z1, rdL3 ls j hjl]
    rfl
theorem l1_ev (a b all : List ByteArray) (hall : all.length ≤ 1000) (x5 n : Int) (i : Nat) (hi : i < all.length)
    (nx1 : all[i] ∉ all.take i → Ev (fun k => emendationlaw03_TokenLists.l0 k a b (wrap64 (x5 + 1)) all n (wrap64 ((i : Int) + 1))) true)
    (nx2 : all[i] ∈ all.take i → Ev (fun k => emendationlaw03_TokenLists.l0 k a b x5 all n (wrap64 ((i : Int) + 1))) true) (d : Nat) :
    ∀ (j : Nat) (f : Bool), j + d = i → (f = true ↔ all[i] ∉ all.take j) → Ev (fun k => emendationlaw03_TokenLists.l1 k a b x5 all (i : Int) f n (i : Int) (i : Int) (j : Int)) true := by
  induction d with
  | zero =>
    intro j f hj hf
    have z : ¬ (j : Int) < (i : Int) := by omega
    obtain rfl : j = i := by omega
    cases f with
    | true =>
      refine Ev.step (fun k => ?_) (nx1 (hf.1 rfl))
      rw [emendationlaw03_TokenLists.l1, if_neg z, if_pos rfl]
    | false =>
      refine Ev.step (fun k => ?_) (nx2 (Classical.byContradiction fun hh => Bool.false_ne_true (hf.2 hh)))
      rw [emendationlaw03_TokenLists.l1, if_neg z, if_neg Bool.false_ne_true]
  | succ d ih =>
    intro j f hj hf
    have hjl : j < all.length := by omega
    have z1 : (j : Int) < (i : Int) := by omega
    have z2 : (0 : Int) ≤ (j : Int) := by omega
    have z3 : (j : Int) < (all.length : Int) := by omega
    have z4 : (0 : Int) ≤ (i : Int) := by omega
    have z5 : (i : Int) < (all.length : Int) := by omega
    have w := oneI j (by omega)
    have hd : j + 1 + d = i := by clear w; omega
    cases f with
    | true =>
      refine Ev.step (fun k => ?_) (ih (j + 1) (decide (all[j] ≠ all[i])) hd ?_)
      · rw [emendationlaw03_TokenLists.l1, if_pos z1, if_pos rfl, if_pos z2, if_pos z3, if_pos z4, if_pos z5, rdB all j hjl, rdB all i hi, key_ne, w]
      · rw [decide_eq_true_iff, take_mem all j hjl, not_or]
        exact ⟨fun h => ⟨hf.1 rfl, fun he => h he.symm⟩, fun h he => h.2 he.symm⟩
    | false =>
      refine Ev.step (fun k => ?_) (ih (j + 1) false hd ?_)
      · rw [emendationlaw03_TokenLists.l1, if_pos z1, if_neg Bool.false_ne_true, w]
      · rw [take_mem all j hjl, not_or]
        exact ⟨fun h => absurd h Bool.false_ne_true, fun h => absurd (hf.2 h.1) Bool.false_ne_true⟩
theorem num_below {u : List ByteArray} (hu : Up u) {s : ByteArray} (hs : s ∈ u) : num u s < u.length := (at_mem hu (isAt_num hu s) hs).1
theorem tail_ev (a b : List ByteArray) (ha : a.length ≤ 60) (hb : b.length ≤ 60) (u : List ByteArray) (hm : ∀ x, x ∈ a ++ b → x ∈ u) (n : Int) (i : Int) (hi : ¬ i < n) : Ev (fun k => emendationlaw03_TokenLists.l0 k a b (u.length : Int) (a ++ b) n i) true := by
  let U := uni [a, b, a, b]
  have hU : Up U := uni_up _
  have hmem : ∀ x, x ∈ U ↔ x ∈ a ∨ x ∈ b := fun x => by
    show x ∈ uni [a, b, a, b] ↔ _
    rw [uni_mem]; simp; exact ⟨fun h => by rcases h with h | h | h | h <;> simp [h], fun h => by rcases h with h | h <;> simp [h]⟩
  have hle : U.length ≤ u.length := len_le U u (up_nodup hU) (fun x hx => hm x (List.mem_append.2 ((hmem x).1 hx)))
  have hno : ∀ l : List ByteArray, (∀ s ∈ l, s ∈ U) → ∀ v ∈ TokI.nums U l, 0 ≤ v ∧ v < (u.length : Int) := fun l hl v hv => by
    unfold TokI.nums at hv
    obtain ⟨s, hs, rfl⟩ := List.mem_map.1 hv
    have := num_below hU (hl s hs)
    omega
  have hna := hno a (fun s hs => (hmem s).2 (Or.inl hs))
  have hnb := hno b (fun s hs => (hmem s).2 (Or.inr hs))
  obtain ⟨K1, h1⟩ := Ids_ev [a, b, a, b] (by simp) (by simp; omega)
  obtain ⟨K2, h2⟩ := sameI (TokI.nums U a) (by rw [TokI.nums_length]; omega)
  obtain ⟨K3, h3⟩ := sameI (TokI.nums U b) (by rw [TokI.nums_length]; omega)
  obtain ⟨K4, h4⟩ := l2_ev (u.length : Int) [TokI.nums U a, TokI.nums U b, TokI.nums U a, TokI.nums U b] (by simp) (by simp only [List.mem_cons, List.not_mem_nil, or_false]; intro l hl; rcases hl with rfl | rfl | rfl | rfl <;> rw [TokI.nums_length] <;> omega)
    (by simp only [List.mem_cons, List.not_mem_nil, or_false]; intro l hl; rcases hl with rfl | rfl | rfl | rfl <;> assumption) 4 0 rfl
  refine ⟨K1 + K2 + K3 + K4 + 2, fun k hk => ?_⟩
  obtain ⟨q, rfl⟩ : ∃ q, k = q + 2 := ⟨k - 2, by omega⟩
  have n1 : token_Ids.f (q + 1) [a, b, a, b] = some [TokI.nums U a, TokI.nums U b, TokI.nums U a, TokI.nums U b] := h1 (q + 1) (by omega)
  have n2 : emendationref03_Same.f (q + 1) (TokI.nums U a) (TokI.nums U a) = some true := h2 (q + 1) (by omega)
  have n3 : emendationref03_Same.f (q + 1) (TokI.nums U b) (TokI.nums U b) = some true := h3 (q + 1) (by omega)
  have n4 : emendationlaw03_TokenLists.l2 q (u.length : Int) [TokI.nums U a, TokI.nums U b, TokI.nums U a, TokI.nums U b] 4 0 = some true := h4 q (by omega)
  have l4 : (([TokI.nums U a, TokI.nums U b, TokI.nums U a, TokI.nums U b] : List (List Int)).length : Int) = 4 := rfl
  have r0 : rd_L3 [TokI.nums U a, TokI.nums U b, TokI.nums U a, TokI.nums U b] 0 = TokI.nums U a := rfl
  have r1 : rd_L3 [TokI.nums U a, TokI.nums U b, TokI.nums U a, TokI.nums U b] 1 = TokI.nums U b := rfl
  have r2 : rd_L3 [TokI.nums U a, TokI.nums U b, TokI.nums U a, TokI.nums U b] 2 = TokI.nums U a := rfl
  have r3 : rd_L3 [TokI.nums U a, TokI.nums U b, TokI.nums U a, TokI.nums U b] 3 = TokI.nums U b := rfl
  show emendationlaw03_TokenLists.l0 (q + 1 + 1) a b _ _ _ _ = some true
  rw [emendationlaw03_TokenLists.l0, if_neg hi, n1, Option.bind_some, l4, if_pos rfl, if_pos (by omega), if_pos (by omega), r0, r2, n2, Option.bind_some, if_pos rfl, if_pos (by omega), if_pos (by omega), r1, r3, n3, Option.bind_some]
  show emendationlaw03_TokenLists.j3 (q + 1) _ _ false = some true
  rw [emendationlaw03_TokenLists.j3, if_neg Bool.false_ne_true, l4, n4]
theorem l0_ev (a b : List ByteArray) (ha : a.length ≤ 60) (hb : b.length ≤ 60) (d : Nat) :
    ∀ (i : Nat) (u : List ByteArray), i + d = (a ++ b).length → u.length ≤ i → (∀ x, x ∈ u ↔ x ∈ (a ++ b).take i) → Ev (fun k => emendationlaw03_TokenLists.l0 k a b (u.length : Int) (a ++ b) ((a ++ b).length : Int) (i : Int)) true := by
  have hlen : (a ++ b).length ≤ 120 := by rw [List.length_append]; omega
  induction d with
  | zero =>
    intro i u hi hul hu
    refine tail_ev a b ha hb u (fun x hx => (hu x).2 ?_) _ _ (by omega)
    rw [List.take_of_length_le (by omega)]; exact hx
  | succ d ih =>
    intro i u hi hul hu
    have hil : i < (a ++ b).length := by omega
    have z1 : (i : Int) < ((a ++ b).length : Int) := by omega
    have w := oneI i (by omega)
    have wu := oneI u.length (by omega)
    have hd : i + 1 + d = (a ++ b).length := by clear w wu; omega
    refine Ev.step (fun k => ?_) (l1_ev a b (a ++ b) (by clear w wu; omega) (u.length : Int) ((a ++ b).length : Int) i hil (fun hn => ?_) (fun hn => ?_) i 0 true (Nat.zero_add _) (by simp))
    · rw [emendationlaw03_TokenLists.l0, if_pos z1]; rfl
    · rw [w, wu]
      have h := ih (i + 1) (u ++ [(a ++ b)[i]]) hd (by rw [List.length_append, List.length_singleton]; clear w wu; omega) (fun x => by
        rw [List.mem_append, List.mem_singleton, take_mem (a ++ b) i hil, hu])
      rw [List.length_append, List.length_singleton] at h
      exact h
    · rw [w]
      exact ih (i + 1) u hd (by clear w wu; omega) (fun x => by
        rw [take_mem (a ++ b) i hil, hu]
        exact ⟨Or.inl, fun h => h.elim id (fun he => he ▸ hn)⟩)
theorem true_ev (a b : List ByteArray) (ha : a.length ≤ 60) (hb : b.length ≤ 60) : Ev (fun k => emendationlaw03_TokenLists.j0 k a b false) true := by
  refine Ev.step (fun k => ?_) (l0_ev a b ha hb (a ++ b).length 0 [] (Nat.zero_add _) (Nat.zero_le _) (by simp))
  rw [emendationlaw03_TokenLists.j0, if_neg Bool.false_ne_true, Option.bind_some, if_pos (by rw [List.length_nil]; omega), Option.bind_some, List.nil_append, if_pos (by omega), Option.bind_some]
  rfl
end Lists
theorem TokenLists (a : List ByteArray) (_ : ∀ s ∈ a, s.size ≤ maxLen) (_ : a.length ≤ maxLen) (b : List ByteArray) (_ : ∀ s ∈ b, s.size ≤ maxLen) (_ : b.length ≤ maxLen) : ∃ k, emendationlaw03_TokenLists.f k a b = some true := by
  have haw : Ev (fun k => emendationlaw03_TokenLists.j0 k a b true) true := Ev.step (fun _ => rfl) (Ev.bind awakeT (Ev.now true))
  obtain ⟨b1, e1, f1⟩ := fewT a
  obtain ⟨b2, e2, f2⟩ := fewT b
  refine Ev.rounds (Ev.bind awakeT ?_)
  refine Ev.congr (fun k => if_pos rfl) (Ev.bind e1 ?_)
  cases b1 with
  | false => exact Ev.congr (fun k => if_neg Bool.false_ne_true) haw
  | true =>
    refine Ev.congr (fun k => if_pos rfl) (Ev.bind e2 ?_)
    cases b2 with
    | false => exact haw
    | true => exact Lists.true_ev a b (f1 rfl) (f2 rfl)
end Go.Proofs.Ytlkgdfeeepiidaa.Pure
