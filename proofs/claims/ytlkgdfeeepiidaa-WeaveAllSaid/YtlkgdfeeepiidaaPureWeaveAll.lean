/- The plain law of WeaveAll: chunks follow upon one another in all three lists, and are all of them; none is empty in all. No condition. -/
import Derived.Test.YtlkgdfeeepiidaaF16
import Derived.Test.YtlkgdfeeepiidaaWvM
namespace Go.Proofs.Ytlkgdfeeepiidaa.Wv
open Go.Proofs.Ytlkgdfeeepiidaa.Lcs
/-- Chunks follow upon one another, up to the ends; none is empty; runs and other chunks take turns. -/
def fol (nb no nt : Nat) : Nat → Nat → Nat → Option Int → List Ch → Prop
  | x, y, z, _, [] => x = nb ∧ y = no ∧ z = nt
  | x, y, z, pv, c :: cs => (c.x0 = x ∧ c.y0 = y ∧ c.z0 = z) ∧ (x ≤ c.x1 ∧ y ≤ c.y1 ∧ z ≤ c.z1 ∧ x + y + z < c.x1 + c.y1 + c.z1) ∧ (1 ≤ c.c ∧ c.c ≤ 5 ∧ ∀ p, pv = some p → ¬ (p = 1 ↔ c.c = 1)) ∧ fol nb no nt c.x1 c.y1 c.z1 (some c.c) cs
theorem fol_le (nb no nt : Nat) (cs : List Ch) : ∀ x y z pv, fol nb no nt x y z pv cs → x ≤ nb ∧ y ≤ no ∧ z ≤ nt := by
  induction cs with
  | nil => intro x y z pv h; obtain ⟨rfl, rfl, rfl⟩ := h; exact ⟨Nat.le_refl _, Nat.le_refl _, Nat.le_refl _⟩
  | cons c cs ih =>
    intro x y z pv h
    obtain ⟨_, ⟨h1, h2, h3, _⟩, _, h⟩ := h
    obtain ⟨g1, g2, g3⟩ := ih _ _ _ _ h
    omega
theorem outc_one (b o t : List Int) : 1 ≤ outc b o t ∧ outc b o t ≤ 5 ∧ outc b o t ≠ 1 := by
  unfold outc
  split
  · omega
  · split
    · omega
    · split <;> omega
theorem fol_gap (b o t : List Int) (nb no nt x y z i j k : Nat) (pv : Option Int) (cs : List Ch) (h1 : x ≤ i) (h2 : y ≤ j) (h3 : z ≤ k) (hl : x + y + z < i + j + k) (hp : ∀ p, pv = some p → p = 1)
    (h : ∀ q, q ≠ 1 → fol nb no nt i j k (some q) cs) : fol nb no nt x y z pv (gap b o t x i y j z k :: cs) := by
  have ho := outc_one (seg b x i) (seg o y j) (seg t z k)
  refine ⟨⟨rfl, rfl, rfl⟩, ⟨h1, h2, h3, hl⟩, ⟨ho.1, ho.2.1, fun p e hiff => ?_⟩, h _ ho.2.2⟩
  exact ho.2.2 (hiff.1 (hp p e))
theorem fol_same (nb no nt x y z n : Nat) (pv : Option Int) (cs : List Ch) (hp : pv ≠ some 1) (hn : n = 0 → pv = none) (h : ∀ pv', (∀ p, pv' = some p → p = 1) → fol nb no nt (x + n) (y + n) (z + n) pv' cs) : fol nb no nt x y z pv (same x y z n ++ cs) := by
  by_cases h0 : n = 0
  · subst h0
    rw [same_zero, List.nil_append]
    exact h pv (fun p e => by rw [hn rfl] at e; cases e)
  · rw [same_pos _ _ _ _ (by omega)]
    refine ⟨⟨rfl, rfl, rfl⟩, ⟨Nat.le_add_right _ _, Nat.le_add_right _ _, Nat.le_add_right _ _, by show x + y + z < x + n + (y + n) + (z + n); omega⟩, ⟨Int.le_refl _, by show (1 : Int) ≤ 5; omega, fun p e hiff => ?_⟩, h (some 1) (fun p e => (Option.some.inj e).symm)⟩
    exact hp (by rw [e, hiff.2 rfl])
theorem fol_chs (b o t : List Int) (K : List Tri) : ∀ (x y z n : Nat) (pv : Option Int), pv ≠ some 1 → (n = 0 → pv = none) → Chain b o t (x + n) (y + n) (z + n) K → fol b.length o.length t.length x y z pv (chs b o t x y z n K) := by
  induction K with
  | nil =>
    intro x y z n pv hp hn hc
    obtain ⟨hx, hy, hz⟩ := hc.le
    rw [chs]
    refine fol_same _ _ _ _ _ _ _ _ _ hp hn (fun pv' hp' => ?_)
    by_cases h : x + n < b.length ∨ y + n < o.length ∨ z + n < t.length
    · rw [if_pos h]
      exact fol_gap _ _ _ _ _ _ _ _ _ _ _ _ _ _ hx hy hz (by omega) hp' (fun q _ => ⟨rfl, rfl, rfl⟩)
    · rw [if_neg h]
      exact ⟨by omega, by omega, by omega⟩
  | cons p K ih =>
    obtain ⟨i, j, k⟩ := p
    intro x y z n pv hp hn hc
    cases hc with
    | cons _ _ _ _ _ _ _ h1 h2 h3 hx hy hz e1 e2 hc =>
    rw [chs]
    by_cases h : i = x + n ∧ j = y + n ∧ k = z + n
    · rw [if_pos h]
      obtain ⟨rfl, rfl, rfl⟩ := h
      exact ih x y z (n + 1) pv hp (by omega) hc
    · rw [if_neg h]
      refine fol_same _ _ _ _ _ _ _ _ _ hp hn (fun pv' hp' => ?_)
      exact fol_gap _ _ _ _ _ _ _ _ _ _ _ _ _ _ h1 h2 h3 (by omega) hp' (fun q hq => ih i j k 1 (some q) (by simpa using hq) (by omega) hc)
theorem fol_chunks (b o t : List Int) : fol b.length o.length t.length 0 0 0 none (chunks b o t) :=
  fol_chs b o t _ 0 0 0 0 none (by simp) (fun _ => rfl) (chain_tri b o t)
end Go.Proofs.Ytlkgdfeeepiidaa.Wv
namespace Go.Proofs.Ytlkgdfeeepiidaa.Pure
open Go.RowKit Go.Proofs.Ytlkgdfeeepiidaa.All Go.Proofs.Ytlkgdfeeepiidaa.Wv Go.Proofs.Ytlkgdfeeepiidaa.Lcs Go.Proofs.YtlkgdfeeepiidaaW.PrintWords Go.Proofs.YtlkgdfeeepiidaaW.PrintLast
theorem rd_C (L : List Ch) (i : Nat) (h : i < L.length) : rd_T75 (L.map C75) (i : Int) = C75 L[i] := by unfold rd_T75; simp [h]
theorem all_head (b o t : List Int) (l : List S75) (x y z x1 y1 z1 : Nat) (c : Int) (i n : Nat) (hr : rd_T75 l (i : Int) = ⟨⟨(x : Int), (x1 : Int)⟩, ⟨(y : Int), (y1 : Int)⟩, ⟨(z : Int), (z1 : Int)⟩, c⟩) (hi : (i : Int) < (n : Int)) (hi' : (i : Int) < (l.length : Int))
    (bx : x1 ≤ 40) (b_y : y1 ≤ 40) (bz : z1 ≤ 40) (g1 : x ≤ x1) (g2 : y ≤ y1) (g3 : z ≤ z1) (g4 : x + y + z < x1 + y1 + z1) (c1 : 1 ≤ c) (c2 : c ≤ 5) (k : Nat) :
    emendationlaw05_WeaveAll.l0 (k + 1) b o t l (x : Int) (y : Int) (z : Int) (n : Int) (i : Int) = emendationlaw05_WeaveAll.j2 k b o t l (i : Int) (n : Int) (i : Int) false (x : Int) (x1 : Int) (y : Int) (y1 : Int) (z : Int) (z1 : Int) c := by
  have HR := Aside0.mk hr
  clear hr
  have z2 : (0 : Int) ≤ (i : Int) := by omega
  have y1' : ¬ (x1 : Int) < (x : Int) := by omega
  have y2 : ¬ (y1 : Int) < (y : Int) := by omega
  have y3 : ¬ (z1 : Int) < (z : Int) := by omega
  have y4 : ¬ ((x1 + y1 + z1 : Nat) : Int) = ((x + y + z : Nat) : Int) := by omega
  have y5 : ¬ c < 1 := by omega
  have y6 : ¬ c > 5 := by omega
  have u1 : x1 + y1 < 1000000000000 := by omega
  have u2 : x1 + y1 + z1 < 1000000000000 := by omega
  have u3 : x + y < 1000000000000 := by omega
  have u4 : x + y + z < 1000000000000 := by omega
  have w1 := wsum x1 y1 u1
  have w2 := wsum (x1 + y1) z1 u2
  have w3 := wsum x y u3
  have w4 := wsum (x + y) z u4
  rw [emendationlaw05_WeaveAll.l0, if_pos hi, if_pos z2, if_pos hi', HR.out]
  simp only [reduceIte, w1, w2, w3, w4, if_neg y1', if_neg y2, if_neg y3, if_neg y4, if_neg y5, decide_eq_false y6]
theorem all_tail (b o t : List Int) (l : List S75) (x y z x1 y1 z1 : Nat) (c : Int) (i n : Nat) (hi : i < 1000000000) (h : 0 < i → i - 1 < l.length ∧ ∃ q : S75, rd_T75 l ((i - 1 : Nat) : Int) = q ∧ ((q.f3 == 1) == (c == 1)) = false) (k : Nat) :
    emendationlaw05_WeaveAll.j2 (k + 1) b o t l (i : Int) (n : Int) (i : Int) false (x : Int) (x1 : Int) (y : Int) (y1 : Int) (z : Int) (z1 : Int) c = emendationlaw05_WeaveAll.l0 k b o t l (x1 : Int) (y1 : Int) (z1 : Int) (n : Int) ((i + 1 : Nat) : Int) := by
  have w5 := wone i (by omega)
  rw [emendationlaw05_WeaveAll.j2, if_neg Bool.false_ne_true, w5]
  clear w5
  by_cases h0 : 0 < i
  · obtain ⟨h1, q, p1, p2⟩ := h h0
    have v0 : (i : Int) > 0 := by clear p1; omega
    have v1 : wrap64 ((i : Int) - 1) = ((i - 1 : Nat) : Int) := by
      clear p1
      rw [wrap_in (by omega) (by omega)]
      omega
    have v2 : (0 : Int) ≤ ((i - 1 : Nat) : Int) := by clear p1 v1; omega
    have v3 : ((i - 1 : Nat) : Int) < (l.length : Int) := by clear p1 v1; omega
    rw [if_pos v0, v1, if_pos v2, if_pos v3, p1, p2, if_neg Bool.false_ne_true]
  · have v0 : ¬ (i : Int) > 0 := by omega
    rw [if_neg v0]
theorem all_loop (b o t : List Int) (hb : b.length ≤ 40) (ho : o.length ≤ 40) (ht : t.length ≤ 40) (L : List Ch) (hL : L.length ≤ 100000) (d : Nat) : ∀ (i x y z : Nat) (pv : Option Int), i + d = L.length → (0 < i → ∃ g : i - 1 < L.length, pv = some L[i - 1].c) → fol b.length o.length t.length x y z pv (L.drop i) →
    Ev (fun k => emendationlaw05_WeaveAll.l0 k b o t (L.map C75) (x : Int) (y : Int) (z : Int) (L.length : Int) (i : Int)) true := by
  induction d with
  | zero =>
    intro i x y z pv hi _ hf
    rw [List.drop_eq_nil_of_le (by omega)] at hf
    obtain ⟨rfl, rfl, rfl⟩ := hf
    refine ⟨1, fun k hk => ?_⟩
    obtain ⟨q, rfl⟩ : ∃ q, k = q + 1 := ⟨k - 1, (Nat.sub_add_cancel hk).symm⟩
    show emendationlaw05_WeaveAll.l0 (q + 1) _ _ _ _ _ _ _ _ _ = _
    have z0 : ¬ (i : Int) < (L.length : Int) := by omega
    rw [emendationlaw05_WeaveAll.l0, if_neg z0, if_pos rfl, if_pos rfl, beq_self_eq_true]
  | succ d ih =>
    intro i x y z pv hi hpv hf
    have hil : i < L.length := by omega
    rw [List.drop_eq_getElem_cons hil] at hf
    obtain ⟨⟨f1, f2, f3⟩, ⟨g1, g2, g3, g4⟩, ⟨c1, c2, c3⟩, hf⟩ := hf
    obtain ⟨b1, b2, b3⟩ := fol_le _ _ _ _ _ _ _ _ hf
    have nx := ih (i + 1) L[i].x1 L[i].y1 L[i].z1 (some L[i].c) (by omega) (fun _ => ⟨by omega, rfl⟩) hf
    have hr := rd_C L i hil
    have hx : C75 L[i] = ⟨⟨(x : Int), (L[i].x1 : Int)⟩, ⟨(y : Int), (L[i].y1 : Int)⟩, ⟨(z : Int), (L[i].z1 : Int)⟩, L[i].c⟩ := by unfold C75; rw [f1, f2, f3]
    rw [hx] at hr
    have z1 : (i : Int) < (L.length : Int) := by omega
    have z3 : (i : Int) < ((L.map C75).length : Int) := by rw [List.length_map]; exact z1
    have hprev : ∀ h : 0 < i, rd_T75 (L.map C75) ((i - 1 : Nat) : Int) = C75 L[i - 1] ∧ ((L[i - 1].c == 1) == (L[i].c == 1)) = false := by
      intro h
      obtain ⟨g, e⟩ := hpv h
      refine ⟨rd_C L (i - 1) g, ?_⟩
      have := c3 _ e
      rw [beq_eq_false_iff_ne]
      intro he
      apply this
      rw [Bool.eq_iff_iff, beq_iff_eq, beq_iff_eq] at he
      exact he
    clear c3 hpv
    refine Ev.step (f := fun k => emendationlaw05_WeaveAll.j2 k b o t (L.map C75) (i : Int) (L.length : Int) (i : Int) false (x : Int) (L[i].x1 : Int) (y : Int) (L[i].y1 : Int) (z : Int) (L[i].z1 : Int) L[i].c) (fun k => ?_) (Ev.step (f := fun k => emendationlaw05_WeaveAll.l0 k b o t (L.map C75) (L[i].x1 : Int) (L[i].y1 : Int) (L[i].z1 : Int) (L.length : Int) ((i + 1 : Nat) : Int)) (fun k => ?_) nx)
    · exact all_head b o t _ x y z _ _ _ _ i _ hr z1 z3 (by omega) (by omega) (by omega) g1 g2 g3 g4 c1 c2 k
    · exact all_tail b o t _ x y z _ _ _ _ i _ (by omega) (fun h0 => ⟨by rw [List.length_map]; omega, C75 (L[i - 1]'(by omega)), (hprev h0).1, (hprev h0).2⟩) k
theorem WeaveAll : emendationlaw05_WeaveAll.Pure := by
  intro b o t _ _ _ _ _ _ _ _ _
  refine Ev.rounds (Ev.bind awake_ev ?_)
  rw [few_is]
  by_cases h : b.length ≤ 40 ∧ o.length ≤ 40 ∧ t.length ≤ 40
  · obtain ⟨h1, h2, h3⟩ := h
    have hlen : (chunks b o t).length ≤ 100000 := by
      have h1 := chs_length b o t (tri b o t) 0 0 0 0
      have h2 := trs_length (prs b o 0 0) (prs b t 0 0) b.length 0
      unfold chunks tri at *
      omega
    have hl := all_loop b o t h1 h2 h3 (chunks b o t) hlen _ 0 0 0 0 none (Nat.zero_add _) (fun h => absurd h (by omega)) (by rw [List.drop_zero]; exact fol_chunks b o t)
    have hc := Chunks_ev b o t (by omega) (by omega) (by omega)
    refine Ev.congr (f := fun k => emendationlaw05_WeaveAll.j0 k b o t false) (fun k => ?_) (Ev.step (f := fun k => (weave_Chunks.f k b o t).bind fun t104 => emendationlaw05_WeaveAll.l0 k b o t t104 0 0 0 (t104.length : Int) 0) (fun k => rfl) (Ev.bind hc ?_))
    · rw [if_pos rfl, Option.bind_some, decide_eq_true ⟨h1, h2, h3⟩]
      rfl
    · refine Ev.congr (fun k => ?_) hl
      rw [List.length_map]
      rfl
  · refine Ev.congr (f := fun k => emendationlaw05_WeaveAll.j0 k b o t true) (fun k => ?_) (Ev.step (fun _ => rfl) (Ev.bind awake_ev (Ev.now true)))
    rw [if_pos rfl, Option.bind_some, decide_eq_false h]
    rfl
end Go.Proofs.Ytlkgdfeeepiidaa.Pure
