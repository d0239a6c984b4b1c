/- The plain law of MarksTurns: the sides and their names exchanged, as many clashes come; and each side chosen is the other one. For names of at most 100000000 bytes. -/
import Derived.Test.YtlkgdfeeepiidaaF10
import Derived.Test.YtlkgdfeeepiidaaMkB
import Derived.Test.YtlkgdfeeepiidaaWvLaws
namespace Go.Proofs.Ytlkgdfeeepiidaa.Pure
open Go.RowKit Go.Proofs.Ytlkgdfeeepiidaa.All Go.Proofs.Ytlkgdfeeepiidaa.TokI Go.Proofs.Ytlkgdfeeepiidaa.Mk Go.Proofs.YtlkgdfeeepiidaaW.PrintWords Go.Proofs.YtlkgdfeeepiidaaW.PrintLast Go.Proofs.YtlkgdfeeepiidaaW.PrintMore
open Go.Proofs.Ytlkgdfeeepiidaa.Wv (seg Ch chunks swch swc chunks_sw)
namespace Turns
theorem nums_inj {u : List ByteArray} (hu : Up u) (l : List ByteArray) : ∀ m, (∀ s ∈ l, s ∈ u) → (∀ s ∈ m, s ∈ u) → TokI.nums u l = TokI.nums u m → l = m := by
  induction l with
  | nil =>
    intro m _ _ h
    cases m with
    | nil => rfl
    | cons b m => simp [TokI.nums] at h
  | cons a l ih =>
    intro m hl hm h
    cases m with
    | nil => simp [TokI.nums] at h
    | cons b m =>
      unfold TokI.nums at h
      rw [List.map_cons, List.map_cons] at h
      obtain ⟨h1, h2⟩ := List.cons.inj h
      have hab : a = b := (at_iff hu (isAt_num hu a) (isAt_num hu b) (hl a (List.mem_cons_self ..)) (hm b (List.mem_cons_self ..))).1.2 (by omega)
      rw [hab, ih m (fun s hs => hl s (List.mem_cons_of_mem _ hs)) (fun s hs => hm s (List.mem_cons_of_mem _ hs)) h2]
theorem uni_turn (b o t : List ByteArray) : uni [b, t, o] = uni [b, o, t] := by
  refine up_eq (uni_up _) (uni_up _) (fun x => ?_)
  rw [uni_mem, uni_mem]
  simp
  exact or_congr Iff.rfl Or.comm
theorem chk_turn (b o t : List ByteArray) : chk b t o = (chk b o t).map swch := by
  unfold chk
  rw [uni_turn, chunks_sw]
theorem cnt_turn (l : List Ch) : cnt (l.map swch) = cnt l := by
  induction l with
  | nil => rfl
  | cons c l ih =>
    have : (swch c).c = 5 ↔ c.c = 5 := by
      show swc c.c = 5 ↔ c.c = 5
      unfold swc
      split
      · omega
      · split <;> omega
    rw [List.map_cons, cnt, cnt, ih]
    by_cases h : c.c = 5
    · rw [if_pos h, if_pos (this.2 h)]
    · rw [if_neg h, if_neg (fun hh => h (this.1 hh))]
/-- Where no side alone is told, and no clash, both sides have the same lines. -/
theorem alike (b o t : List ByteArray) (c : Ch) (hc : c ∈ chk b o t) (h2 : ¬ c.c = 2) (h3 : ¬ c.c = 3) (h5 : ¬ c.c = 5) : pc o c.y0 c.y1 = pc t c.z0 c.z1 := by
  have hg := chunks_good _ _ _ c hc
  have he := hg.eq h2 h3 h5
  rw [pc_seg, pc_seg] at he
  have hm : ∀ s, (s ∈ b ∨ s ∈ o ∨ s ∈ t) → s ∈ uni [b, o, t] := fun s h => by rw [uni_mem]; simp; exact h
  exact nums_inj (uni_up _) _ _ (fun s hs => hm s (Or.inr (Or.inl (pc_sub hs)))) (fun s hs => hm s (Or.inr (Or.inr (pc_sub hs)))) he
theorem pick_turn (sd : Int) (h1 : 1 ≤ sd) (h3 : sd ≤ 3) (b o t : List ByteArray) (c : Ch) (hc : c ∈ chk b o t) : pick (4 - sd) b t o (swch c) = pick sd b o t c := by
  unfold pick swch swc
  by_cases c2 : c.c = 2
  · simp [c2]
  · by_cases c3 : c.c = 3
    · simp [c3]
    · by_cases c5 : c.c = 5
      · simp [c5]
        have hsd : sd = 1 ∨ sd = 2 ∨ sd = 3 := by omega
        rcases hsd with rfl | rfl | rfl <;> simp
      · have ha := alike b o t c hc c2 c3 c5
        by_cases c1 : c.c = 1
        · simp [c1, ha]
        · simp [c1, c2, c3, c5, ha]
theorem part_turn (n : Int) (x y z : ByteArray) (b o t : List ByteArray) (c : Ch) (hc : c ∈ chk b o t) : (Mk.part n z y x b t o (swch c)).length = (Mk.part n x y z b o t c).length := by
  unfold Mk.part swch swc
  by_cases c2 : c.c = 2
  · simp [c2]
  · by_cases c3 : c.c = 3
    · simp [c3]
    · by_cases c5 : c.c = 5
      · simp [c5, region_length]
        omega
      · have ha := alike b o t c hc c2 c3 c5
        by_cases c1 : c.c = 1
        · simp [c1, ha]
        · simp [c1, c2, c3, c5, ha]
theorem len_turn (n : Int) (x y z : ByteArray) (b o t : List ByteArray) (l : List Ch) : (∀ c ∈ l, c ∈ chk b o t) → (((l.map swch).map (Mk.part n z y x b t o)).flatten).length = ((l.map (Mk.part n x y z b o t)).flatten).length := by
  induction l with
  | nil => intro _; rfl
  | cons c l ih =>
    intro h
    rw [List.map_cons, List.map_cons, List.flatten_cons, List.length_append, List.map_cons, List.flatten_cons, List.length_append, ih (fun c hc => h c (List.mem_cons_of_mem _ hc)), part_turn n x y z b o t c (h c (List.mem_cons_self ..))]
theorem picks_turn (sd : Int) (h1 : 1 ≤ sd) (h3 : sd ≤ 3) (b o t : List ByteArray) (l : List Ch) : (∀ c ∈ l, c ∈ chk b o t) → ((l.map swch).map (pick (4 - sd) b t o)).flatten = (l.map (pick sd b o t)).flatten := by
  induction l with
  | nil => intro _; rfl
  | cons c l ih =>
    intro h
    rw [List.map_cons, List.map_cons, List.flatten_cons, List.map_cons, List.flatten_cons, ih (fun c hc => h c (List.mem_cons_of_mem _ hc)), pick_turn sd h1 h3 b o t c (h c (List.mem_cons_self ..))]
theorem mrg_small (n : Int) (x y z : ByteArray) (hx : x.size ≤ 1000) (hy : y.size ≤ 1000) (hz : z.size ≤ 1000) (b o t : List ByteArray) (sb : ∀ s ∈ b, s.size ≤ 2000) (so : ∀ s ∈ o, s.size ≤ 2000) (st : ∀ s ∈ t, s.size ≤ 2000) :
    ∀ s ∈ mrgL n x y z b o t, s.size ≤ 140737488351232 := by
  intro s hs
  unfold mrgL at hs
  obtain ⟨l, hl, hs⟩ := List.mem_flatten.1 hs
  obtain ⟨c, _, rfl⟩ := List.mem_map.1 hl
  unfold Mk.part at hs
  split at hs
  · have := st s (pc_sub hs); omega
  · split at hs
    · exact region_small n x y z hx hy hz _ _ _ (fun s h => by have := so s (pc_sub h); omega) (fun s h => by have := sb s (pc_sub h); omega) (fun s h => by have := st s (pc_sub h); omega) s hs
    · have := so s (pc_sub hs); omega
theorem flat_len (n : Int) (x y z : ByteArray) (b o t : List ByteArray) (hl : b.length + o.length + t.length ≤ 120) (l : List Ch) : ((l.map (Mk.part n x y z b o t)).flatten).length ≤ 124 * l.length := by
  induction l with
  | nil => exact Nat.zero_le _
  | cons c l ih =>
    have := part_length n x y z b o t c
    rw [List.map_cons, List.flatten_cons, List.length_append, List.length_cons]
    omega
theorem mrg_len (n : Int) (x y z : ByteArray) (b o t : List ByteArray) (lb : b.length ≤ 40) (lo : o.length ≤ 40) (lt : t.length ≤ 40) : (mrgL n x y z b o t).length ≤ 100000 := by
  have h1 := flat_len n x y z b o t (by omega) (chk b o t)
  have h2 := chunks_len (TokI.nums (uni [b, o, t]) b) (TokI.nums (uni [b, o, t]) o) (TokI.nums (uni [b, o, t]) t)
  rw [TokI.nums_length] at h2
  unfold mrgL
  unfold chk at h1 ⊢
  omega
section
variable (x y z : ByteArray) (b o t : List ByteArray) (n : Int)
theorem l0_ev (hb : ∀ s ∈ b, mk n s = 0) (ho : ∀ s ∈ o, mk n s = 0) (ht : ∀ s ∈ t, mk n s = 0) (lb : b.length ≤ 40) (lo : o.length ≤ 40) (lt : t.length ≤ 40)
    (s1 : ∀ s ∈ mrgL n x y z b o t, s.size ≤ 140737488351232) (s2 : ∀ s ∈ mrgL n z y x b t o, s.size ≤ 140737488351232) (d : Nat) :
    ∀ j : Nat, 1 ≤ j → j + d = 4 → Ev (fun k => emendationlaw06_MarksTurns.l0 k n (mrgL n x y z b o t) (mrgL n z y x b t o) (j : Int)) true := by
  induction d with
  | zero =>
    intro j _ hj
    obtain rfl : j = 4 := by omega
    refine ⟨1, fun k hk => ?_⟩
    obtain ⟨q', rfl⟩ : ∃ q, k = q + 1 := ⟨k - 1, (Nat.sub_add_cancel hk).symm⟩
    show emendationlaw06_MarksTurns.l0 (q' + 1) _ _ _ _ = _
    rw [emendationlaw06_MarksTurns.l0, if_neg (by omega)]
  | succ d ih =>
    intro j hj1 hj
    have z1 : (j : Int) ≤ 3 := by omega
    have w := oneI j (by omega)
    have w4 : wrap64 (4 - (j : Int)) = 4 - (j : Int) := wrapI (by omega) (by omega)
    have hC1 := Choose_ev n (j : Int) (by omega) z1 (mrgL n x y z b o t) (by have := mrg_len n x y z b o t lb lo lt; clear w w4; omega) s1
    have hC2 := Choose_ev n (4 - (j : Int)) (by omega) (by omega) (mrgL n z y x b t o) (by have := mrg_len n z y x b t o lb lt lo; clear w w4; omega) s2
    have e1 : cho n (j : Int) (mrgL n x y z b o t) 0 [] = (((chk b o t).map (pick (j : Int) b o t)).flatten, 0) := by
      unfold mrgL
      rw [cho_parts n (j : Int) (by omega) z1 x y z b o t hb ho ht, List.nil_append]
    have e2 : cho n (4 - (j : Int)) (mrgL n z y x b t o) 0 [] = (((chk b o t).map (pick (j : Int) b o t)).flatten, 0) := by
      unfold mrgL
      rw [cho_parts n (4 - (j : Int)) (by omega) (by omega) z y x b t o hb ht ho, List.nil_append, chk_turn, picks_turn (j : Int) (by omega) z1 b o t _ (fun c hc => hc)]
    rw [e1] at hC1
    rw [e2] at hC2
    have hlen : (((chk b o t).map (pick (j : Int) b o t)).flatten).length ≤ 1000000 := by
      have h2 := chunks_len (TokI.nums (uni [b, o, t]) b) (TokI.nums (uni [b, o, t]) o) (TokI.nums (uni [b, o, t]) t)
      rw [TokI.nums_length] at h2
      have h1 : ∀ l : List Ch, ((l.map (pick (j : Int) b o t)).flatten).length ≤ 120 * l.length := by
        intro l
        induction l with
        | nil => exact Nat.zero_le _
        | cons c l ih =>
          have hp : (pick (j : Int) b o t c).length ≤ 120 := by
            have p1 := pc_length b c.x0 c.x1
            have p2 := pc_length o c.y0 c.y1
            have p3 := pc_length t c.z0 c.z1
            unfold pick
            repeat' split
            all_goals omega
          rw [List.map_cons, List.flatten_cons, List.length_append, List.length_cons]
          omega
      have h3 := h1 (chk b o t)
      unfold chk at h3 ⊢
      clear w w4
      omega
    obtain ⟨K1, h1⟩ := hC1
    obtain ⟨K2, h2⟩ := hC2
    obtain ⟨K3, h3⟩ := same_ev (((chk b o t).map (pick (j : Int) b o t)).flatten) hlen
    obtain ⟨K4, h4⟩ := ih (j + 1) (by clear w w4; omega) (by clear w w4; omega)
    refine ⟨K1 + K2 + K3 + K4 + 1, fun k hk => ?_⟩
    obtain ⟨m, rfl⟩ : ∃ m, k = m + 1 := ⟨k - 1, by clear w w4; omega⟩
    have n1 := h1 m (by clear w w4; omega)
    have n2 := h2 m (by clear w w4; omega)
    have n3 := h3 m (by clear w w4; omega)
    have n4 := h4 m (by clear w w4; omega)
    show emendationlaw06_MarksTurns.l0 (m + 1) n _ _ _ = some true
    simp only at n1 n2 n3 n4
    rw [emendationlaw06_MarksTurns.l0, if_pos z1, w4, n1, Option.bind_some, n2, Option.bind_some, if_pos rfl, if_pos rfl, n3, Option.bind_some, if_pos rfl, w, n4]
end
theorem main_ev (x y z : ByteArray) (hx : x.size ≤ 1000) (hy : y.size ≤ 1000) (hz : z.size ≤ 1000) (b o t : List ByteArray) (lb : b.length ≤ 40) (lo : o.length ≤ 40) (lt : t.length ≤ 40)
    (sb : ∀ s ∈ b, s.size ≤ 2000) (so : ∀ s ∈ o, s.size ≤ 2000) (st : ∀ s ∈ t, s.size ≤ 2000) : Ev (fun k => emendationlaw06_MarksTurns.j0 k b o t false x y z) true := by
  have hS := Size_ev 0 [b, o, t] (by simp) (by simp; omega) (by
    intro s h
    simp at h
    rcases h with h | h | h
    · have := sb s h; omega
    · have := so s h; omega
    · have := st s h; omega)
  have hmk : ¬ sz 0 ([b, o, t] : List (List ByteArray)).flatten = 1000 → ∀ s, (s ∈ b ∨ s ∈ o ∨ s ∈ t) → mk (sz 0 ([b, o, t] : List (List ByteArray)).flatten) s = 0 := fun h s hs => mk_none 0 _ h s (by simp; exact hs)
  generalize sz 0 ([b, o, t] : List (List ByteArray)).flatten = n at hS hmk
  have hM1 := Merge_ev n x y z hx hy hz b o t (by omega)
  have hM2 := Merge_ev n z y x hz hy hx b t o (by omega)
  have hc : cnt (chk b t o) = cnt (chk b o t) := by rw [chk_turn, cnt_turn]
  have hl : (mrgL n z y x b t o).length = (mrgL n x y z b o t).length := by unfold mrgL; rw [chk_turn, len_turn n x y z b o t _ (fun c h => h)]
  rw [hc] at hM2
  have hbne : ((((mrgL n x y z b o t).length : Int)) != ((mrgL n z y x b t o).length : Int)) = false := by rw [hl]; simp
  refine Ev.step (f := fun k => (marks_Size.f k 0 [b, o, t]).bind _) (fun k => by rw [emendationlaw06_MarksTurns.j0, if_neg Bool.false_ne_true]) (Ev.bind hS (Ev.bind hM1 (Ev.bind hM2 ?_)))
  refine Ev.congr (fun k => if_pos rfl) ?_
  show Ev (fun k => emendationlaw06_MarksTurns.j1 k n (mrgL n x y z b o t) (mrgL n z y x b t o) ((((mrgL n x y z b o t).length : Int)) != ((mrgL n z y x b t o).length : Int))) true
  rw [hbne]
  by_cases hn : n = 1000
  · refine ⟨1, fun k hk => ?_⟩
    obtain ⟨q', rfl⟩ : ∃ q, k = q + 1 := ⟨k - 1, (Nat.sub_add_cancel hk).symm⟩
    show emendationlaw06_MarksTurns.j1 (q' + 1) _ _ _ _ = _
    rw [emendationlaw06_MarksTurns.j1, if_neg Bool.false_ne_true, if_pos hn]
  · have hmk := hmk hn
    have h0 := l0_ev x y z b o t n (fun s h => hmk s (Or.inl h)) (fun s h => hmk s (Or.inr (Or.inl h))) (fun s h => hmk s (Or.inr (Or.inr h))) lb lo lt (mrg_small n x y z hx hy hz b o t sb so st) (mrg_small n z y x hz hy hx b t o sb st so) 3 1 (Nat.le_refl _) rfl
    refine Ev.step (fun k => ?_) h0
    show emendationlaw06_MarksTurns.j1 (k + 1) _ _ _ _ = _
    rw [emendationlaw06_MarksTurns.j1, if_neg Bool.false_ne_true, if_neg hn]
    rfl
end Turns
theorem MarksTurns (x : ByteArray) (hx : x.size ≤ 100000000) (y : ByteArray) (hy : y.size ≤ 100000000) (z : ByteArray) (hz : z.size ≤ 100000000)
    (b : List ByteArray) (_ : ∀ s ∈ b, s.size ≤ maxLen) (_ : b.length ≤ maxLen) (o : List ByteArray) (_ : ∀ s ∈ o, s.size ≤ maxLen) (_ : o.length ≤ maxLen) (t : List ByteArray) (_ : ∀ s ∈ t, s.size ≤ maxLen) (_ : t.length ≤ maxLen) : ∃ k, emendationlaw06_MarksTurns.f k x y z b o t = some true := by
  have haw : Ev (fun k => emendationlaw06_MarksTurns.j0 k b o t true x y z) true := Ev.step (fun _ => rfl) (Ev.bind awake_ev (Ev.now true))
  obtain ⟨b1, e1, f1⟩ := few_ev b
  obtain ⟨b2, e2, f2⟩ := few_ev o
  obtain ⟨b3, e3, f3⟩ := few_ev t
  obtain ⟨b4, e4⟩ := plain_ev x hx
  obtain ⟨b5, e5⟩ := plain_ev y hy
  obtain ⟨b6, e6⟩ := plain_ev z hz
  refine Ev.rounds (Ev.bind awake_ev ?_)
  refine Ev.congr (fun k => if_pos rfl) (Ev.bind e1 ?_)
  cases b1 with
  | false => exact Ev.congr (fun k => if_neg Bool.false_ne_true) haw
  | true =>
    refine Ev.congr (fun k => if_pos rfl) (Ev.bind e2 ?_)
    cases b2 with
    | false => exact Ev.congr (fun k => if_neg Bool.false_ne_true) haw
    | true =>
      refine Ev.congr (fun k => if_pos rfl) (Ev.bind e3 ?_)
      cases b3 with
      | false => exact Ev.congr (fun k => if_neg Bool.false_ne_true) haw
      | true =>
        refine Ev.congr (fun k => if_pos rfl) (Ev.bind e4 ?_)
        cases b4 with
        | false => exact Ev.congr (fun k => if_neg Bool.false_ne_true) haw
        | true =>
          refine Ev.congr (fun k => if_pos rfl) (Ev.bind e5 ?_)
          cases b5 with
          | false => exact Ev.congr (fun k => if_neg Bool.false_ne_true) haw
          | true =>
            refine Ev.congr (fun k => if_pos rfl) (Ev.bind e6 ?_)
            cases b6 with
            | false => exact Ev.congr (fun k => if_neg Bool.false_ne_true) haw
            | true =>
              refine Ev.congr (fun k => if_pos rfl) ?_
              refine Ev.congr (fun k => by rw [named_is, Option.bind_some]) (?_ : Ev (fun k => emendationlaw06_MarksTurns.j0 k b o t (!decide ((wrap64 ((wrap64 ((x.size : Int) + (y.size : Int))) + (z.size : Int))) < 1000)) x y z) true)
              by_cases hnm : (wrap64 ((wrap64 ((x.size : Int) + (y.size : Int))) + (z.size : Int))) < 1000
              · obtain ⟨sx, sy, sz'⟩ := named_small x y z (by omega) (by omega) (by omega) hnm
                rw [decide_eq_true hnm]
                exact Turns.main_ev x y z sx sy sz' b o t (f1 rfl).1 (f2 rfl).1 (f3 rfl).1 (f1 rfl).2 (f2 rfl).2 (f3 rfl).2
              · rw [decide_eq_false hnm]
                exact haw
end Go.Proofs.Ytlkgdfeeepiidaa.Pure
