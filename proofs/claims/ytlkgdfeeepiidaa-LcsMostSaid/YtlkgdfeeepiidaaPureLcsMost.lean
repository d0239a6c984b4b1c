/- LcsMost, the plain law: no choice of places has more in common. -/
import Derived.Test.YtlkgdfeeepiidaaF5
import Derived.Test.YtlkgdfeeepiidaaLcsG
namespace Go.Proofs.Ytlkgdfeeepiidaa.Pure
open Go.RowKit Go.Proofs.Ytlkgdfeeepiidaa.All Go.Proofs.Ytlkgdfeeepiidaa.Lcs Go.Proofs.YtlkgdfeeepiidaaW.PrintWords Go.Proofs.YtlkgdfeeepiidaaW.PrintLast
set_option linter.unusedSimpArgs false
set_option linter.unusedVariables false
/-- The numbers that a choice of places takes. -/
def sel : List Int → Nat → List Int
  | [], _ => []
  | x :: t, w => if w % 2 = 1 then x :: sel t (w / 2) else sel t (w / 2)
theorem sel_sub : ∀ (a : List Int) (w : Nat), (sel a w).Sublist a
  | [], _ => List.Sublist.refl _
  | x :: t, w => by
    rw [sel]; split
    · exact (sel_sub t _).cons_cons x
    · exact (sel_sub t _).cons x
theorem sel_all (s a : List Int) (h : s.Sublist a) : ∃ w, w < 2 ^ a.length ∧ sel a w = s := by
  induction h with
  | slnil => exact ⟨0, by decide, rfl⟩
  | @cons s t x h ih =>
    obtain ⟨w, h1, h2⟩ := ih
    refine ⟨2 * w, by rw [List.length_cons, Nat.pow_succ]; omega, ?_⟩
    rw [sel, if_neg (by omega), Nat.mul_div_cancel_left w (by omega), h2]
  | @cons_cons s t x h ih =>
    obtain ⟨w, h1, h2⟩ := ih
    refine ⟨2 * w + 1, by rw [List.length_cons, Nat.pow_succ]; omega, ?_⟩
    rw [sel, if_pos (by omega), show (2 * w + 1) / 2 = w by omega, h2]
theorem sel_take : ∀ (a : List Int) (i : Nat) (w : Nat) (h : i < a.length), sel (a.take (i + 1)) w = if w / 2 ^ i % 2 = 0 then sel (a.take i) w else sel (a.take i) w ++ [a[i]]
  | [], i, w, h => absurd h (by simp)
  | x :: t, 0, w, h => by
    rw [List.take_succ_cons, List.take_zero, List.take_zero, sel, sel, sel, Nat.pow_zero, Nat.div_one]
    by_cases hw : w % 2 = 0
    · rw [if_neg (by omega), if_pos hw]
    · rw [if_pos (by omega), if_neg hw]; rfl
  | x :: t, i + 1, w, h => by
    rw [List.take_succ_cons, List.take_succ_cons, sel, sel]
    have ih := sel_take t i (w / 2) (by simpa using h)
    rw [ih, Nat.div_div_eq_div_mul, ← Nat.pow_succ', List.getElem_cons_succ]
    by_cases hw : w % 2 = 1
    · rw [if_pos hw, if_pos hw]; split <;> simp
    · rw [if_neg hw, if_neg hw]
theorem bit_is : ∀ (w : Fin 512) (i : Fin 9), (Go.bits .and .i64 (shr .i64 (w.val : Int) (i.val : Int)) 1 = 0) = (w.val / 2 ^ i.val % 2 = 0) := by
  have h : ∀ (w : Fin 512) (i : Fin 9), decide (Go.bits .and .i64 (shr .i64 (w.val : Int) (i.val : Int)) 1 = 0) = decide (w.val / 2 ^ i.val % 2 = 0) := by decide +kernel
  intro w i
  have := h w i
  rw [Bool.eq_iff_iff, decide_eq_true_eq, decide_eq_true_eq] at this
  exact propext this
theorem pow_is : ∀ n : Fin 10, shl .i64 1 (n.val : Int) = ((2 ^ n.val : Nat) : Int) := by decide +kernel
theorem wrap_succ (n : Nat) (h : n < 1000000) : Aside0 (wrap64 ((n : Int) + 1) = ((n + 1 : Nat) : Int)) := ⟨by rw [wrap_in (by omega) (by omega)]; omega⟩
/-- What is known of a search that came to 'at'. -/
def Fits (b s : List Int) (at_ : Nat) (ok : Bool) : Prop :=
  (ok = true → at_ ≤ b.length ∧ ∀ t, (s ++ t).Sublist b ↔ t.Sublist (b.drop at_)) ∧ (ok = false → ¬ s.Sublist b)
theorem Fits.zero (b : List Int) : Fits b [] 0 true := ⟨fun _ => ⟨Nat.zero_le _, fun t => by simp⟩, fun h => by cases h⟩
theorem Fits.is {b s : List Int} {n : Nat} {ok : Bool} (h : Fits b s n ok) : ok = true ↔ s.Sublist b := by
  cases ok with
  | true => have := (h.1 rfl).2 []; simp at this; simp [this]
  | false => have := h.2 rfl; simp [this]
/-- A place that has another number is passed by. -/
theorem past {b : List Int} {n : Nat} (h : n < b.length) {x : Int} (hx : ¬ b[n] = x) (t : List Int) : (x :: t).Sublist (b.drop n) ↔ (x :: t).Sublist (b.drop (n + 1)) := by
  rw [List.drop_eq_getElem_cons h]
  constructor
  · intro g
    exact head_ne g (fun e => hx e.symm)
  · intro g; exact g.cons _
theorem met {b : List Int} {n : Nat} (h : n < b.length) {x : Int} (hx : b[n] = x) (t : List Int) : (x :: t).Sublist (b.drop n) ↔ t.Sublist (b.drop (n + 1)) := by
  rw [List.drop_eq_getElem_cons h, hx]; exact List.cons_sublist_cons

theorem most_l0 (a b : List Int) (ha : a.length ≤ 9) (hb : b.length ≤ 60) (d : Nat) :
    ∀ (P : Nat) (_ : P = 2 ^ a.length) (w best : Nat), P - w = d → w ≤ P → (∀ v, v < w → (sel a v).Sublist b → (sel a v).length ≤ best) → best ≤ lcs a b →
      Ev (fun k => emendationlaw04_LcsMost.l0 k a b (best : Int) (w : Int)) true := by
  intro P hP
  have hp : Aside0 (shl .i64 1 (a.length : Int) = (P : Int)) := ⟨by rw [hP]; exact pow_is ⟨a.length, by omega⟩⟩
  have hpow : P ≤ 512 := by rw [hP]; exact Nat.le_trans (Nat.pow_le_pow_right (by omega) ha) (by decide)
  replace hP := Aside0.mk hP
  have L1 := Length_is a b (by omega) (by omega)
  have hle := lcs_le_left a b
  induction d with
  | zero =>
    intro w best hd hw hall hbest
    have hwe : w = P := by omega
    refine ⟨1, fun k hk => ?_⟩
    obtain ⟨m, rfl⟩ : ∃ m, k = m + 1 := ⟨k - 1, by omega⟩
    obtain ⟨s, h1, h2, h3⟩ := lcs_has a b
    obtain ⟨v, hv, hs⟩ := sel_all s a h1
    have h4 := hall v (by rw [hP.out] at hwe; omega) (by rw [hs]; exact h2)
    rw [hs, h3] at h4
    have h5 : best = lcs a b := by omega
    have z : ¬ (w : Int) < (P : Int) := by omega
    show emendationlaw04_LcsMost.l0 (m + 1) a b (best : Int) (w : Int) = some true
    rw [emendationlaw04_LcsMost.l0, hp.out, if_neg z, L1, Option.bind_some, h5]
    simp
  | succ d ih =>
    intro w best hd hw hall hbest
    have hwlt : w < P := by omega
    have hww := wrap_succ w (by omega)
    have z : (w : Int) < (P : Int) := by omega
    have hsl : ∀ i, (sel (a.take i) w).length ≤ 9 := fun i => by
      have h1 := (sel_sub (a.take i) w).length_le
      simp at h1; omega
    -- the choice is tried
    have l1 : ∀ (e : Nat) (i at_ : Nat) (ok : Bool), a.length - i = e → i ≤ a.length → at_ ≤ b.length + i → Fits b (sel (a.take i) w) at_ ok →
        Ev (fun k => emendationlaw04_LcsMost.l1 k a b (best : Int) (w : Int) (at_ : Int) ((sel (a.take i) w).length : Int) ok (a.length : Int) (i : Int)) true := by
      intro e
      induction e with
      | zero =>
        intro i at_ ok he hi hat hf
        have hia : i = a.length := by omega
        subst hia
        have z1 : ¬ (a.length : Int) < (a.length : Int) := by omega
        rw [List.take_of_length_le (Nat.le_refl _)] at hf ⊢
        have hfi := hf.is
        by_cases hok : ok = true
        · have hin := hfi.1 hok
          have hge := lcs_ge a b (sel a w) (sel_sub a w) hin
          have hm : mx (best : Int) ((sel a w).length : Int) = ((max best (sel a w).length : Nat) : Int) := by unfold mx; split <;> omega
          refine Ev.step (fun k => ?_) (ih (w + 1) (max best (sel a w).length) (by omega) (by omega) (fun v hv hs => ?_) (by omega))
          · rw [emendationlaw04_LcsMost.l1, if_neg z1, if_pos hok, hm, hww.out]
          · by_cases hvw : v = w
            · subst hvw; omega
            · have := hall v (by omega) hs; omega
        · have hout : ¬ (sel a w).Sublist b := fun h => hok (hfi.2 h)
          refine Ev.step (fun k => ?_) (ih (w + 1) best (by omega) (by omega) (fun v hv hs => ?_) hbest)
          · rw [emendationlaw04_LcsMost.l1, if_neg z1, if_neg hok, hww.out]
          · by_cases hvw : v = w
            · subst hvw; exact absurd hs hout
            · exact hall v (by omega) hs
      | succ e ihe =>
        intro i at_ ok he hi hat hf
        have hilt : i < a.length := by omega
        have hwi := wrap_succ i (by omega)
        have z1 : (i : Int) < (a.length : Int) := by omega
        have z2 : (0 : Int) ≤ (i : Int) := by omega
        have hbit : Aside0 ((Go.bits .and .i64 (shr .i64 (w : Int) (i : Int)) 1 = 0) = (w / 2 ^ i % 2 = 0)) := ⟨bit_is ⟨w, by omega⟩ ⟨i, by omega⟩⟩
        have hst := sel_take a i w hilt
        have hs9 := hsl i
        by_cases hc : w / 2 ^ i % 2 = 0
        · rw [if_pos hc] at hst
          have nx := ihe (i + 1) at_ ok (by omega) (by omega) (by omega) (by rw [hst]; exact hf)
          refine Ev.step (fun k => ?_) nx
          rw [emendationlaw04_LcsMost.l1, if_pos z1, if_pos z2, if_pos (hbit.out ▸ hc), hwi.out, hst]
        · rw [if_neg hc] at hst
          have hlen : (sel (a.take (i + 1)) w).length = (sel (a.take i) w).length + 1 := by rw [hst]; simp
          have hwl : Aside0 (wrap64 (((sel (a.take i) w).length : Int) + 1) = ((sel (a.take (i + 1)) w).length : Int)) := ⟨by rw [hlen, wrap_in (by omega) (by omega)]; omega⟩
          -- the search
          have l2 : ∀ (g : Nat) (n : Nat), b.length - n = g → n ≤ b.length + i →
              (ok = true → n ≤ b.length ∧ ∀ t, (sel (a.take i) w ++ a[i] :: t).Sublist b ↔ (a[i] :: t).Sublist (b.drop n)) →
              Ev (fun k => emendationlaw04_LcsMost.l2 k a b (best : Int) (w : Int) (n : Int) ((sel (a.take i) w).length : Int) ok (i : Int) (a.length : Int) (i : Int)) true := by
            intro g
            induction g with
            | zero =>
              intro n hg hn hfit
              have hwn := wrap_succ n (by omega)
              have y1 : ¬ (n : Int) < (b.length : Int) := by omega
              have nx := ihe (i + 1) (n + 1) false (by omega) (by omega) (by omega) ⟨fun h => (Bool.false_ne_true h).elim, fun _ hs => ?_⟩
              · refine Ev.step (fun k => ?_) nx
                rw [emendationlaw04_LcsMost.l2, if_neg y1, hwn.out, hwl.out, hwi.out, decide_eq_false y1]
                split <;> rfl
              · rw [hst] at hs
                by_cases hok : ok = true
                · have := ((hfit hok).2 []).1 hs
                  rw [List.drop_eq_nil_of_le (by omega)] at this
                  cases this
                · exact hf.2 (by simpa using hok) ((List.sublist_append_left _ _).trans hs)
            | succ g ihg =>
              intro n hg hn hfit
              have hnlt : n < b.length := by omega
              have hwn := wrap_succ n (by omega)
              have y1 : (n : Int) < (b.length : Int) := by omega
              have y2 : (0 : Int) ≤ (n : Int) := by omega
              have f1 := rd_nat b n hnlt
              have f2 := rd_nat a i hilt
              by_cases he : b[n] = a[i]
              · have hf2 : Fits b (sel (a.take (i + 1)) w) (n + 1) ok := by
                  refine ⟨fun hok => ⟨by clear f1 f2 he; omega, fun t => ?_⟩, fun hok hs => ?_⟩
                  · rw [hst, List.append_assoc, List.singleton_append, (hfit hok).2 t, met hnlt he]
                  · rw [hst] at hs
                    exact hf.2 hok ((List.sublist_append_left _ _).trans hs)
                have e1 : rd b (n : Int) = rd a (i : Int) := by rw [f1, f2, he]
                clear f1 f2
                replace he := Aside0.mk he
                have nx := ihe (i + 1) (n + 1) ok (by clear e1; omega) (by clear e1; omega) (by clear e1; omega) hf2
                refine Ev.step (fun k => ?_) nx
                rw [emendationlaw04_LcsMost.l2, if_pos y1, if_pos y2, if_pos z2, if_pos z1, if_pos e1, hwn.out, hwl.out, hwi.out, decide_eq_true y1]
                by_cases hok : ok = true
                · rw [if_pos hok, hok]
                · rw [if_neg hok]; rw [Bool.not_eq_true] at hok; rw [hok]
              · have e1 : ¬ rd b (n : Int) = rd a (i : Int) := by rw [f1, f2]; exact he
                clear f1 f2
                have hfit' : ok = true → n + 1 ≤ b.length ∧ ∀ t, (sel (a.take i) w ++ a[i] :: t).Sublist b ↔ (a[i] :: t).Sublist (b.drop (n + 1)) :=
                  fun hok => ⟨hnlt, fun t => by rw [(hfit hok).2 t, past hnlt he]⟩
                replace he := Aside0.mk he
                have nx := ihg (n + 1) (by clear e1; omega) (by clear e1; omega) hfit'
                refine Ev.step (fun k => ?_) nx
                rw [emendationlaw04_LcsMost.l2, if_pos y1, if_pos y2, if_pos z2, if_pos z1, if_neg e1, hwn.out]
          have nx := l2 _ at_ rfl hat (fun hok => ⟨(hf.1 hok).1, fun t => (hf.1 hok).2 _⟩)
          refine Ev.step (fun k => ?_) nx
          rw [emendationlaw04_LcsMost.l1, if_pos z1, if_pos z2, if_neg (by rw [hbit.out]; exact hc)]
    have nx := l1 _ 0 0 true rfl (by omega) (by omega) (Fits.zero b)
    refine Ev.step (fun k => ?_) nx
    rw [emendationlaw04_LcsMost.l0, hp.out, if_pos z]
    rfl
theorem LcsMost : emendationlaw04_LcsMost.Pure := by
  intro a b _ _ _ _ _ _
  by_cases ha : (a.length : Int) > 9
  · refine ⟨1, ?_⟩
    rw [emendationlaw04_LcsMost.f, awake_is, Option.bind_some, if_pos rfl, if_pos ha, emendationlaw04_LcsMost.j0, if_pos rfl, awake_is, Option.bind_some]
  · by_cases hb : (b.length : Int) > 60
    · refine ⟨1, ?_⟩
      rw [emendationlaw04_LcsMost.f, awake_is, Option.bind_some, if_pos rfl, if_neg ha, emendationlaw04_LcsMost.j0, decide_eq_true hb, if_pos rfl, awake_is, Option.bind_some]
    · obtain ⟨k, hk⟩ := (most_l0 a b (by omega) (by omega) _ _ rfl 0 0 rfl (Nat.zero_le _) (fun v hv => absurd hv (Nat.not_lt_zero v)) (Nat.zero_le _)).rounds
      refine ⟨k + 1, ?_⟩
      rw [emendationlaw04_LcsMost.f, awake_is, Option.bind_some, if_pos rfl, if_neg ha, emendationlaw04_LcsMost.j0, decide_eq_false hb, if_neg (by decide)]
      exact hk
end Go.Proofs.Ytlkgdfeeepiidaa.Pure
