/- Plain laws of tokens: none is empty; cut again each is itself; of two texts, one behind the other; of one byte, n times. -/
import Derived.Test.YtlkgdfeeepiidaaTok
namespace Go.Proofs.Ytlkgdfeeepiidaa.Tok
set_option linter.unusedSimpArgs false
/-- A byte behind tokens: the last one grows, or there is one more. -/
theorem add_snoc (ts : List (List UInt8)) (t : List UInt8) (c : UInt8) (ht : t ≠ []) :
    (add (ts ++ [t]) c = ts ++ [t ++ [c]] ∧ joins (t.getLast ht) c = true) ∨ (add (ts ++ [t]) c = ts ++ [t] ++ [[c]] ∧ joins (t.getLast ht) c = false) := by
  have hd := List.dropLast_concat_getLast ht
  by_cases h : joins (t.getLast ht) c = true
  · left
    refine ⟨?_, h⟩
    have := add_join ts t.dropLast (t.getLast ht) c h
    rwa [hd] at this
  · right
    rw [Bool.not_eq_true] at h
    refine ⟨?_, h⟩
    have := add_part ts t.dropLast (t.getLast ht) c h
    rwa [hd] at this
/-- Only the last token counts. -/
theorem add_behind (p ts : List (List UInt8)) (t : List UInt8) (c : UInt8) (ht : t ≠ []) : add (p ++ (ts ++ [t])) c = p ++ add (ts ++ [t]) c := by
  rw [← List.append_assoc]
  rcases add_snoc (p ++ ts) t c ht with ⟨h, g⟩ | ⟨h, g⟩ <;> rcases add_snoc ts t c ht with ⟨h', g'⟩ | ⟨h', g'⟩
  · rw [h, h']; simp
  · rw [g] at g'; cases g'
  · rw [g] at g'; cases g'
  · rw [h, h']; simp
theorem list_snoc {α : Type} (l : List α) (h : l ≠ []) : ∃ p x, l = p ++ [x] := ⟨l.dropLast, l.getLast h, (List.dropLast_concat_getLast h).symm⟩
theorem snoc_ind {P : List UInt8 → Prop} (h0 : P []) (h1 : ∀ l c, P l → P (l ++ [c])) (l : List UInt8) : P l := by
  have : ∀ (n : Nat) (l : List UInt8), l.length = n → P l := by
    intro n
    induction n with
    | zero => intro l hl; rw [List.length_eq_zero_iff.1 hl]; exact h0
    | succ n ih =>
      intro l hl
      obtain ⟨p, x, rfl⟩ := list_snoc l (by intro e; rw [e] at hl; cases hl)
      exact h1 p x (ih p (by simpa using hl))
  exact this _ l rfl
theorem cutL_ne (l : List UInt8) : ∀ t ∈ cutL l, t ≠ [] := by
  induction l using snoc_ind with
  | h0 => intro t ht; cases ht
  | h1 l c ih =>
    rw [cutL_snoc]
    by_cases hz : cutL l = []
    · rw [hz, add_nil]; intro t ht; simp at ht; rw [ht]; simp
    · obtain ⟨p, x, e⟩ := list_snoc _ hz
      have hx : x ≠ [] := ih x (by rw [e]; simp)
      rw [e] at ih ⊢
      rcases add_snoc p x c hx with ⟨h, _⟩ | ⟨h, _⟩
      · rw [h]; intro t ht
        rcases List.mem_append.1 ht with ht | ht
        · exact ih t (List.mem_append_left _ ht)
        · simp at ht; rw [ht]; simp
      · rw [h]; intro t ht
        rcases List.mem_append.1 ht with ht | ht
        · exact ih t ht
        · simp at ht; rw [ht]; simp
theorem cutL_nil_iff (l : List UInt8) : cutL l = [] ↔ l = [] := by
  constructor
  · intro h; have := cutL_flatten l; rw [h] at this; simpa using this.symm
  · rintro rfl; rfl
/-- Cut again each token is itself. -/
theorem cutL_again (l : List UInt8) : ∀ t ∈ cutL l, cutL t = [t] := by
  induction l using snoc_ind with
  | h0 => intro t ht; cases ht
  | h1 l c ih =>
    rw [cutL_snoc]
    by_cases hz : cutL l = []
    · rw [hz, add_nil]; intro t ht; simp at ht; rw [ht]; rfl
    · obtain ⟨p, x, e⟩ := list_snoc _ hz
      have hx : x ≠ [] := cutL_ne l x (by rw [e]; simp)
      have hxx : cutL x = [] ++ [x] := ih x (by rw [e]; simp)
      rw [e] at ih ⊢
      rcases add_snoc p x c hx with ⟨h, g⟩ | ⟨h, g⟩
      · rw [h]; intro t ht
        rcases List.mem_append.1 ht with ht | ht
        · exact ih t (List.mem_append_left _ ht)
        · simp at ht
          rw [ht, cutL_snoc, hxx]
          rcases add_snoc [] x c hx with ⟨h', g'⟩ | ⟨h', g'⟩
          · rw [h']; rfl
          · rw [g] at g'; cases g'
      · rw [h]; intro t ht
        rcases List.mem_append.1 ht with ht | ht
        · exact ih t ht
        · simp at ht; rw [ht]; rfl
/-- Tokens of two texts, one behind the other. -/
theorem cutL_append (a b : List UInt8) : cutL (a ++ b) = cutL a ++ cutL b ∨ ∃ xs x y ys, cutL a = xs ++ [x] ∧ cutL b = y :: ys ∧ cutL (a ++ b) = xs ++ [x ++ y] ++ ys := by
  induction b using snoc_ind with
  | h0 => left; rw [List.append_nil, cutL_nil, List.append_nil]
  | h1 b c ih =>
    rw [← List.append_assoc, cutL_snoc, cutL_snoc]
    rcases ih with ih | ⟨xs, x, y, ys, e1, e2, e3⟩
    · by_cases hb : cutL b = []
      · rw [ih, hb, List.append_nil, add_nil]
        by_cases ha : cutL a = []
        · left; rw [ha]; rfl
        · obtain ⟨p, x, e⟩ := list_snoc _ ha
          have hx : x ≠ [] := cutL_ne a x (by rw [e]; simp)
          rw [e]
          rcases add_snoc p x c hx with ⟨h, _⟩ | ⟨h, _⟩
          · right; exact ⟨p, x, [c], [], rfl, rfl, by rw [h]; simp⟩
          · left; rw [h]
      · obtain ⟨p, x, e⟩ := list_snoc _ hb
        have hx : x ≠ [] := cutL_ne b x (by rw [e]; simp)
        left
        rw [ih, e, add_behind _ _ _ _ hx]
    · right
      have hy : y ≠ [] := cutL_ne b y (by rw [e2]; simp)
      by_cases hys : ys = []
      · subst hys
        have hxy : x ++ y ≠ [] := by simp [hy]
        have hl : (x ++ y).getLast hxy = y.getLast hy := List.getLast_append_of_ne_nil hxy hy
        rw [e2, e3, List.append_nil]
        rcases add_snoc xs (x ++ y) c hxy with ⟨h, g⟩ | ⟨h, g⟩ <;> rcases add_snoc [] y c hy with ⟨h', g'⟩ | ⟨h', g'⟩
        · exact ⟨xs, x, y ++ [c], [], e1, by rw [List.nil_append] at h'; rw [h']; rfl, by rw [h]; simp⟩
        · rw [hl, g'] at g; cases g
        · rw [hl, g'] at g; cases g
        · exact ⟨xs, x, y, [[c]], e1, by rw [List.nil_append] at h'; rw [h']; rfl, by rw [h]⟩
      · obtain ⟨q, z, e⟩ := list_snoc _ hys
        have hz : z ≠ [] := cutL_ne b z (by rw [e2, e]; simp)
        refine ⟨xs, x, y, add ys c, e1, ?_, ?_⟩
        · rw [e2, e, show y :: (q ++ [z]) = [y] ++ (q ++ [z]) from rfl, add_behind _ _ _ _ hz]; rfl
        · rw [e3, e, add_behind _ _ _ _ hz]
/-- One byte, n times. -/
theorem cutL_rep_one (c : UInt8) (h : joins c c = true) (n : Nat) : cutL (List.replicate (n + 1) c) = [List.replicate (n + 1) c] := by
  induction n with
  | zero => rfl
  | succ n ih =>
    rw [List.replicate_succ' (n := n + 1), cutL_snoc, ih]
    have := add_join [] (List.replicate n c) c c h
    rw [← List.replicate_succ' (n := n), List.nil_append] at this
    exact this
theorem cutL_rep_each (c : UInt8) (h : joins c c = false) (n : Nat) : cutL (List.replicate n c) = List.replicate n [c] := by
  induction n with
  | zero => rfl
  | succ n ih =>
    rw [List.replicate_succ', cutL_snoc, ih, List.replicate_succ']
    cases n with
    | zero => rfl
    | succ n =>
      rw [List.replicate_succ']
      exact add_part _ [] c c h
end Go.Proofs.Ytlkgdfeeepiidaa.Tok
