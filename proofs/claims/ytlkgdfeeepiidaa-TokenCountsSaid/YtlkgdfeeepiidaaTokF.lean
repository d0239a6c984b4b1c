/- What the printed functions of layer 3 (classes, Cut, the reference's Cut, Same) come to, in plain words. -/
import Derived.Test.YtlkgdfeeepiidaaTok
import Derived.Test.YtlkgdfeeepiidaaF28
import Derived.Test.YtlkgdfeeepiidaaF29
import Derived.Test.YtlkgdfeeepiidaaF27
import Derived.Test.YtlkgdfeeepiidaaF26
namespace Go.Proofs.Ytlkgdfeeepiidaa.Tok
open Go.RowKit Go.Proofs.Ytlkgdfeeepiidaa.All Go.Proofs.YtlkgdfeeepiidaaW.PrintWords Go.Proofs.YtlkgdfeeepiidaaW.PrintLast
set_option linter.unusedSimpArgs false
set_option linter.unusedVariables false

theorem utf_Class_six : ∀ n : Fin 256, utf_Class.f 6 (n.val : Int) = some (cls (n.val : Int)) := by decide +kernel
theorem ref_Class_six : ∀ n : Fin 256, emendationref01_Class.f 6 (n.val : Int) = some (cls (n.val : Int)) := by decide +kernel
theorem utf_Class_ev (c : UInt8) : Ev (fun k => utf_Class.f k (c.toNat : Int)) (cb c) :=
  Ev.of (utf_Class.mono _) (utf_Class_six ⟨c.toNat, c.toNat_lt⟩)
theorem ref_Class_ev (c : UInt8) : Ev (fun k => emendationref01_Class.f k (c.toNat : Int)) (cb c) :=
  Ev.of (emendationref01_Class.mono _) (ref_Class_six ⟨c.toNat, c.toNat_lt⟩)

theorem bt_L (s : ByteArray) (i : Nat) (h : i < s.size) : bt s (i : Int) = (((L s)[i]'(by rw [L_length]; exact h)).toNat : Int) := by
  unfold bt
  rw [dif_pos (by simpa using h)]
  simp [L]
  rfl
theorem bt_wrap (s : ByteArray) (i : Int) : wrap64 (bt s i) = bt s i := by
  have := bt_range s i
  unfold wrap64
  omega

theorem long_ev (c : UInt8) : token_long.f (cb c) = some (decide (cb c = 1 ∨ cb c = 2)) := by
  unfold token_long.f
  by_cases h : cb c = 1
  · rw [if_pos h]; simp [h]
  · rw [if_neg h]; simp only [h, false_or]; congr 1
theorem wrap_in {x : Int} (h0 : -9223372036854775808 ≤ x) (h1 : x ≤ 9223372036854775807) : wrap64 x = x := by unfold wrap64; omega

/-- Where a byte ends a token, or goes on. -/
theorem take_succ (l : List UInt8) (i : Nat) (h : i < l.length) : l.take (i + 1) = l.take i ++ [l[i]] := by
  rw [List.take_succ_eq_append_getElem h]
theorem drop_snoc (l : List UInt8) (c : UInt8) (n : Nat) (h : n ≤ l.length) : (l ++ [c]).drop n = l.drop n ++ [c] := by
  rw [List.drop_append_of_le_length h]
/-- The last byte of what stands from 'n' on. -/
theorem piece_last (l : List UInt8) (i n : Nat) (h : i < l.length) (hn : n ≤ i) : (l.take (i + 1)).drop n = (l.take i).drop n ++ [l[i]] := by
  rw [take_succ l i h, drop_snoc _ _ _ (by simp; omega)]

theorem Cut_l0_ev (s : ByteArray) (hs : s.size ≤ 1000000) (d : Nat) : ∀ (i n : Nat) (out : List (List UInt8)), s.size + 1 - i = d → 1 ≤ i → i ≤ s.size + 1 → out.length ≤ n → n ≤ i →
    (i ≤ s.size → n < i ∧ cutL ((L s).take i) = out ++ [((L s).take i).drop n]) → (i = s.size + 1 → cutL (L s) = out) →
    Ev (fun k => token_Cut.l0 k s (out.map B) (n : Int) (i : Int)) ((cutL (L s)).map B) := by
  induction d with
  | zero =>
    intro i n out hd h1 hi ho hn _ hend
    refine ⟨1, fun k hk => ?_⟩
    obtain ⟨m, rfl⟩ : ∃ m, k = m + 1 := ⟨k - 1, by omega⟩
    simp only [token_Cut.l0]
    rw [if_neg (by omega), hend (by omega)]
  | succ d ih =>
    intro i n out hd h1 hi ho hn hpart _
    have hle : i ≤ s.size := by omega
    obtain ⟨hni, hcut⟩ := hpart hle
    have hlen := L_length s
    obtain ⟨j, rfl⟩ : ∃ j, i = j + 1 := ⟨i - 1, by omega⟩
    have w1 : wrap64 (((j + 1 : Nat) : Int) - 1) = (j : Int) := by rw [wrap_in (by omega) (by omega)]; omega
    have w2 : wrap64 (((j + 1 : Nat) : Int) + 1) = ((j + 1 + 1 : Nat) : Int) := by rw [wrap_in (by omega) (by omega)]; omega
    have hb : bt s (j : Int) = ((L s)[j]'(by omega)).toNat := bt_L s j (by omega)
    obtain ⟨K1, hK1⟩ := utf_Class_ev ((L s)[j]'(by omega))
    have hlast := piece_last (L s) j n (by omega) (by omega)
    have hex : s.extract ((n : Int)).toNat (((j + 1 : Nat) : Int)).toNat = B (((L s).take (j + 1)).drop n) := by
      rw [Int.toNat_natCast, Int.toNat_natCast, extract_B]
    have hmap : out.map B ++ [B (((L s).take (j + 1)).drop n)] = (out ++ [((L s).take (j + 1)).drop n]).map B := by simp
    -- the token ends here
    have hpart2 : (j + 1 < s.size → joins ((L s)[j]'(by omega)) ((L s).getD (j + 1) 0) = false) →
        Ev (fun k => token_Cut.l0 k s ((out ++ [((L s).take (j + 1)).drop n]).map B) ((j + 1 : Nat) : Int) ((j + 1 + 1 : Nat) : Int)) ((cutL (L s)).map B) := by
      intro hj
      refine ih (j + 1 + 1) (j + 1) _ (by omega) (by omega) (by omega) (by simp; omega) (by omega) (fun hlt => ⟨by omega, ?_⟩) (fun he => ?_)
      · have hlt' : j + 1 < (L s).length := by omega
        have hj' := hj (by omega)
        rw [List.getD_eq_getElem?_getD, List.getElem?_eq_getElem hlt', Option.getD_some] at hj'
        rw [take_succ (L s) (j + 1) hlt', cutL_snoc, hcut, hlast, add_part _ _ _ _ hj']
        have hz : (List.take (j + 1) (L s) ++ [(L s)[j + 1]]).drop (j + 1) = [(L s)[j + 1]] := List.drop_left' (by simp; omega)
        rw [hz]
      · rw [← hcut, List.take_of_length_le (by omega)]
    by_cases hlt : j + 1 < s.size
    · have hlt' : j + 1 < (L s).length := by omega
      have hb2 : bt s ((j + 1 : Nat) : Int) = ((L s)[j + 1]'hlt').toNat := bt_L s (j + 1) (by omega)
      obtain ⟨K2, hK2⟩ := utf_Class_ev ((L s)[j + 1]'hlt')
      by_cases hjo : joins ((L s)[j]'(by omega)) ((L s)[j + 1]'hlt') = true
      · -- it goes on
        have hjo' := of_decide_eq_true hjo
        obtain ⟨K3, hK3⟩ := ih (j + 1 + 1) n out (by omega) (by omega) (by omega) ho (by omega) (fun _ => ⟨by omega, by
          rw [take_succ (L s) (j + 1) hlt', cutL_snoc, hcut, drop_snoc _ _ _ (by simp; omega), hlast, add_join _ _ _ _ hjo]⟩) (fun he => by omega)
        refine ⟨K1 + K2 + K3 + 1, fun k hk => ?_⟩
        obtain ⟨m, rfl⟩ : ∃ m, k = m + 1 := ⟨k - 1, by omega⟩
        have e1 : utf_Class.f m (((L s)[j]'(by omega)).toNat : Int) = _ := hK1 m (by omega)
        have e2 : utf_Class.f m (((L s)[j + 1]'hlt').toNat : Int) = _ := hK2 m (by omega)
        have e3 := hK3 m (by omega)
        simp only [token_Cut.l0]
        rw [w1, w2, bt_wrap, bt_wrap, hb, hb2, e1, e2]
        rw [if_pos (by omega), if_pos (by omega), if_pos (by omega)]
        simp only [Option.bind_some, long_ev]
        rw [if_pos (by omega), if_pos (by simpa using hjo'.1), if_pos (by omega), if_pos hjo'.2]
        exact e3
      · have hjo' := Bool.eq_false_iff.2 hjo
        obtain ⟨K3, hK3⟩ := hpart2 (fun _ => by rw [List.getD_eq_getElem?_getD, List.getElem?_eq_getElem hlt', Option.getD_some]; exact hjo')
        refine ⟨K1 + K2 + K3 + 1, fun k hk => ?_⟩
        obtain ⟨m, rfl⟩ : ∃ m, k = m + 1 := ⟨k - 1, by omega⟩
        have e1 : utf_Class.f m (((L s)[j]'(by omega)).toNat : Int) = _ := hK1 m (by omega)
        have e2 : utf_Class.f m (((L s)[j + 1]'hlt').toNat : Int) = _ := hK2 m (by omega)
        have e3 := hK3 m (by omega)
        simp only [token_Cut.l0]
        rw [w1, w2, bt_wrap, bt_wrap, hb, hb2, e1, e2, hex, hmap]
        rw [if_pos (by omega), if_pos (by omega), if_pos (by omega)]
        simp only [Option.bind_some, long_ev]
        rw [if_pos (by omega)]
        have hlim : (List.map B out).length < 8796093022208 := by simp; omega
        by_cases hl : cb ((L s)[j]'(by omega)) = 1 ∨ cb ((L s)[j]'(by omega)) = 2
        · have hne : ¬ cb ((L s)[j + 1]'hlt') = cb ((L s)[j]'(by omega)) := fun he => hjo (decide_eq_true ⟨hl, he⟩)
          rw [if_pos (by simpa using hl), if_pos (by omega), if_neg hne, if_pos (by omega), if_pos (by omega), if_pos hlim]
          exact e3
        · rw [if_neg (by simpa using hl), if_pos (by omega), if_pos (by omega), if_pos hlim]
          exact e3
    · obtain ⟨K3, hK3⟩ := hpart2 (fun h => absurd h hlt)
      refine ⟨K1 + K3 + 1, fun k hk => ?_⟩
      obtain ⟨m, rfl⟩ : ∃ m, k = m + 1 := ⟨k - 1, by omega⟩
      have e1 : utf_Class.f m (((L s)[j]'(by omega)).toNat : Int) = _ := hK1 m (by omega)
      have e3 := hK3 m (by omega)
      have hlim : (List.map B out).length < 8796093022208 := by simp; omega
      simp only [token_Cut.l0]
      rw [w1, w2, bt_wrap, hb, e1, hex, hmap]
      rw [if_pos (by omega), if_pos (by omega), if_pos (by omega)]
      simp only [Option.bind_some, long_ev]
      rw [if_neg (by omega), if_pos (by omega), if_pos (by omega), if_pos hlim]
      exact e3

/-- Cut, in plain words. -/
theorem Cut_ev (s : ByteArray) (hs : s.size ≤ 1000000) : Ev (fun k => token_Cut.f k s) ((cutL (L s)).map B) := by
  have hlen := L_length s
  have h := Cut_l0_ev s hs (s.size + 1 - 1) 1 0 [] rfl (by omega) (by omega) (by simp) (by omega) (fun h => ⟨by omega, by
    have h0 : 0 < (L s).length := by omega
    rw [take_succ (L s) 0 h0]; simp [cutL_snoc, cutL_nil, add_nil, cutL, add]⟩) (fun h => by
    have : L s = [] := List.eq_nil_of_length_eq_zero (by omega)
    rw [this]; rfl)
  exact h
theorem cutL_last (l : List UInt8) (b : UInt8) : ∃ ts t, cutL (l ++ [b]) = ts ++ [t ++ [b]] := by
  rw [cutL_snoc]
  unfold add
  split
  · exact ⟨[], [], rfl⟩
  · rename_i t _
    split
    · exact ⟨cutL l, [], rfl⟩
    · rename_i c hc
      split
      · exact ⟨_, t, rfl⟩
      · exact ⟨_, [], rfl⟩
theorem joins_iff (a b : UInt8) : joins a b = true ↔ (cb b = cb a ∧ cb b < 3) := by
  have ha := cls_range (a.toNat : Int)
  unfold joins
  rw [decide_eq_true_iff]
  unfold cb
  constructor
  · rintro ⟨h, e⟩; exact ⟨e, by omega⟩
  · rintro ⟨e, h⟩; exact ⟨by omega, e⟩

theorem RefCut_l0_ev (s : ByteArray) (hs : s.size ≤ 1000000) (d : Nat) : ∀ (i : Nat) (x : Int), s.size - i = d → i ≤ s.size →
    (∀ h : 0 < i, ∀ hj : i - 1 < (L s).length, x = cb ((L s)[i - 1]'hj)) → (cutL ((L s).take i)).length ≤ i →
    Ev (fun k => emendationref03_Cut.l0 k s ((cutL ((L s).take i)).map B) x (i : Int)) ((cutL (L s)).map B) := by
  have hlen := L_length s
  induction d with
  | zero =>
    intro i x hd hi hx _
    refine ⟨1, fun k hk => ?_⟩
    obtain ⟨m, rfl⟩ : ∃ m, k = m + 1 := ⟨k - 1, by omega⟩
    simp only [emendationref03_Cut.l0]
    rw [if_neg (by omega), List.take_of_length_le (by omega)]
  | succ d ih =>
    intro i x hd hi hx hcl
    have hlt : i < (L s).length := by omega
    have w2 : wrap64 ((i : Int) + 1) = ((i + 1 : Nat) : Int) := by rw [wrap_in (by omega) (by omega)]; omega
    have hb : bt s (i : Int) = ((L s)[i]'hlt).toNat := bt_L s i (by omega)
    obtain ⟨K1, hK1⟩ := ref_Class_ev ((L s)[i]'hlt)
    have hex : s.extract ((i : Int)).toNat (((i + 1 : Nat) : Int)).toNat = B [(L s)[i]'hlt] := by
      rw [Int.toNat_natCast, Int.toNat_natCast, extract_B, take_succ (L s) i hlt, List.drop_left' (by simp; omega)]
    have hsz : (B [(L s)[i]'hlt]).size = 1 := by simp [B_size]
    have hlim : (List.map B (cutL ((L s).take i))).length < 8796093022208 := by simp; omega
    have hgo : (cutL ((L s).take (i + 1))).length ≤ i + 1 → Ev (fun k => emendationref03_Cut.l0 k s ((cutL ((L s).take (i + 1))).map B) (cb ((L s)[i]'hlt)) ((i + 1 : Nat) : Int)) ((cutL (L s)).map B) :=
      fun hq => ih (i + 1) _ (by omega) (by omega) (fun _ hj => by simp) hq
    cases i with
    | zero =>
      have hnew : cutL ((L s).take (0 + 1)) = cutL ((L s).take 0) ++ [[(L s)[0]'hlt]] := by
        rw [take_succ (L s) 0 hlt]; rfl
      rw [hnew, List.map_append] at hgo
      obtain ⟨K2, hK2⟩ := hgo (by simp [cutL])
      refine ⟨K1 + K2 + 1, fun k hk => ?_⟩
      obtain ⟨m, rfl⟩ : ∃ m, k = m + 1 := ⟨k - 1, by omega⟩
      have e1 : emendationref01_Class.f m (((L s)[0]'hlt).toNat : Int) = _ := hK1 m (by omega)
      have e2 := hK2 m (by omega)
      simp only [emendationref03_Cut.l0]
      rw [w2, bt_wrap, hb, e1, hex]
      simp only [Option.bind_some]
      rw [if_pos (by omega), if_pos (by omega), if_neg (by simp [cutL]), if_pos (by omega), if_pos (by omega), if_pos hlim]
      exact e2
    | succ j =>
      obtain ⟨ts, t, hc⟩ := cutL_last ((L s).take j) ((L s)[j]'(by omega))
      rw [← take_succ (L s) j (by omega)] at hc
      have hxx := hx (by omega) (by simp; omega)
      simp only [Nat.add_sub_cancel] at hxx
      have hl1 : (List.map B (cutL ((L s).take (j + 1)))).length = ts.length + 1 := by rw [hc]; simp
      have hl2 : ts.length + 1 ≤ j + 1 := by rw [hc] at hcl; simpa using hcl
      by_cases hjo : joins ((L s)[j]'(by omega)) ((L s)[j + 1]'hlt) = true
      · have hnew : cutL ((L s).take (j + 1 + 1)) = ts ++ [t ++ [(L s)[j]'(by omega)] ++ [(L s)[j + 1]'hlt]] := by
          rw [take_succ (L s) (j + 1) hlt, cutL_snoc, hc, add_join _ _ _ _ hjo]
        have hset : ((cutL ((L s).take (j + 1))).map B).set ts.length (B (t ++ [(L s)[j]'(by omega)]) ++ B [(L s)[j + 1]'hlt]) = (cutL ((L s).take (j + 1 + 1))).map B := by
          rw [hnew, hc, ← B_append]
          simp
        obtain ⟨K2, hK2⟩ := hgo (by rw [hnew]; simp; omega)
        have w3 : wrap64 (((List.map B (cutL ((L s).take (j + 1)))).length : Int) - 1) = (ts.length : Int) := by rw [hl1, wrap_in (by omega) (by omega)]; omega
        have hrd : rdOf ByteArray.empty ((cutL ((L s).take (j + 1))).map B) (ts.length : Int) = B (t ++ [(L s)[j]'(by omega)]) := by
          unfold rdOf; rw [hc]; simp
        obtain ⟨q1, q2⟩ := (joins_iff _ _).1 hjo
        refine ⟨K1 + K2 + 1, fun k hk => ?_⟩
        obtain ⟨m, rfl⟩ : ∃ m, k = m + 1 := ⟨k - 1, by omega⟩
        have e1 : emendationref01_Class.f m (((L s)[j + 1]'hlt).toNat : Int) = _ := hK1 m (by omega)
        have e2 := hK2 m (by omega)
        simp only [emendationref03_Cut.l0]
        rw [w2, bt_wrap, hb, e1, hex, w3, hrd]
        simp only [Option.bind_some]
        have htl : t.length < 1000000 := by
          have := congrArg (fun z => z.flatten.length) hc
          simp only [cutL_flatten] at this
          simp at this
          omega
        rw [if_pos (by omega), if_pos (by omega), if_pos (by omega), if_pos (by rw [q1, hxx]), if_pos q2, if_pos (by omega), if_pos (by omega), if_pos (by omega), if_pos (by omega), if_pos (by rw [hsz, B_size]; simp; omega), Int.toNat_natCast, hset]
        exact e2
      · have hnew : cutL ((L s).take (j + 1 + 1)) = cutL ((L s).take (j + 1)) ++ [[(L s)[j + 1]'hlt]] := by
          rw [take_succ (L s) (j + 1) hlt, cutL_snoc, hc, add_part _ _ _ _ (Bool.eq_false_iff.2 hjo)]
        rw [hnew, List.map_append] at hgo
        obtain ⟨K2, hK2⟩ := hgo (by rw [hc]; simp; omega)
        refine ⟨K1 + K2 + 1, fun k hk => ?_⟩
        obtain ⟨m, rfl⟩ : ∃ m, k = m + 1 := ⟨k - 1, by omega⟩
        have e1 : emendationref01_Class.f m (((L s)[j + 1]'hlt).toNat : Int) = _ := hK1 m (by omega)
        have e2 := hK2 m (by omega)
        simp only [emendationref03_Cut.l0]
        rw [w2, bt_wrap, hb, e1, hex]
        simp only [Option.bind_some]
        rw [if_pos (by omega), if_pos (by omega), if_pos (by omega)]
        by_cases hq1 : cb ((L s)[j + 1]'hlt) = x
        · rw [if_pos hq1, if_neg (fun h => hjo ((joins_iff _ _).2 ⟨by rw [hq1, hxx], h⟩)), if_pos (by omega), if_pos (by omega), if_pos hlim]
          exact e2
        · rw [if_neg hq1, if_pos (by omega), if_pos (by omega), if_pos hlim]
          exact e2

theorem RefCut_ev (s : ByteArray) (hs : s.size ≤ 1000000) : Ev (fun k => emendationref03_Cut.f k s) ((cutL (L s)).map B) :=
  RefCut_l0_ev s hs (s.size - 0) 0 0 rfl (by omega) (fun h => by omega) (by simp [cutL])

/-- Texts are the same as themselves. -/
theorem Same_l0_ev (l : List ByteArray) (hl : l.length ≤ 1000000) (d : Nat) : ∀ i : Nat, l.length - i = d → i ≤ l.length → Ev (fun k => emendationref02_Same.l0 k l l (l.length : Int) (i : Int)) true := by
  induction d with
  | zero =>
    intro i hd hi
    refine ⟨1, fun k hk => ?_⟩
    obtain ⟨m, rfl⟩ : ∃ m, k = m + 1 := ⟨k - 1, by omega⟩
    simp only [emendationref02_Same.l0]
    rw [if_neg (by omega)]
  | succ d ih =>
    intro i hd hi
    obtain ⟨K, hK⟩ := ih (i + 1) (by omega) (by omega)
    refine ⟨K + 1, fun k hk => ?_⟩
    obtain ⟨m, rfl⟩ : ∃ m, k = m + 1 := ⟨k - 1, by omega⟩
    have q1 : (i : Int) < (l.length : Int) := by omega
    have q2 : 0 ≤ (i : Int) := by omega
    have q3 : wrap64 ((i : Int) + 1) = ((i + 1 : Nat) : Int) := by rw [wrap_in (by omega) (by omega)]; omega
    simp only [emendationref02_Same.l0, reduceIte, if_pos q1, if_pos q2, q3]
    exact hK m (by omega)
theorem Same_ev (l : List ByteArray) (hl : l.length ≤ 1000000) : Ev (fun k => emendationref02_Same.f k l l) true := by
  obtain ⟨K, hK⟩ := Same_l0_ev l hl l.length 0 (by omega) (by omega)
  refine ⟨K, fun k hk => ?_⟩
  simp only [emendationref02_Same.f]
  rw [if_pos trivial]
  exact hK k hk
theorem awake_ev : Ev (fun k => emendationlaw03_awake.f k) true :=
  Ev.of emendationlaw03_awake.mono (k := 20) (by decide +kernel)
end Go.Proofs.Ytlkgdfeeepiidaa.Tok
