/- Lines and markers in plain words: how long a line's run of one mark is, which marker of a size it is, and the size that no line is one of. · Three sides merged in lines, in plain words; the marks laws' small functions. -/
import Derived.Test.YtlkgdfeeepiidaaTok
import Derived.Test.YtlkgdfeeepiidaaTokJ
import Derived.Test.YtlkgdfeeepiidaaF27
import Derived.Test.YtlkgdfeeepiidaaF41
import Derived.Test.YtlkgdfeeepiidaaF42
import Derived.Test.YtlkgdfeeepiidaaF62
import Derived.Test.YtlkgdfeeepiidaaWvC
import Derived.Test.YtlkgdfeeepiidaaF46
import Derived.Test.YtlkgdfeeepiidaaF39
import Derived.Test.YtlkgdfeeepiidaaF40
namespace Go.Proofs.Ytlkgdfeeepiidaa.Mk
open Go.RowKit Go.Proofs.Ytlkgdfeeepiidaa.All Go.Proofs.Ytlkgdfeeepiidaa.TokI Go.Proofs.Ytlkgdfeeepiidaa.Tok Go.Proofs.YtlkgdfeeepiidaaW.PrintWords Go.Proofs.YtlkgdfeeepiidaaW.PrintLast Go.Proofs.YtlkgdfeeepiidaaW.PrintMore
theorem btL (s : ByteArray) (i : Nat) (h : i < s.size) : bt s (i : Int) = (((L s)[i]'(by rw [L_length]; exact h)).toNat : Int) := by
  unfold bt
  rw [dif_pos (by simpa using h)]
  simp [L]
  rfl
theorem toList_L (s : ByteArray) : s.toList = L s := ByteArray.toList_eq s
/-- How many bytes alike there are ahead. -/
def lead (c : UInt8) (l : List UInt8) : Nat := (l.takeWhile (· == c)).length
theorem lead_cons (c d : UInt8) (l : List UInt8) : lead c (d :: l) = if d = c then lead c l + 1 else 0 := by
  unfold lead
  rw [List.takeWhile_cons]
  by_cases h : d = c
  · subst h; simp
  · have : (d == c) = false := beq_eq_false_iff_ne.2 h
    rw [this, if_neg h]; rfl
theorem lead_le (c : UInt8) (l : List UInt8) : lead c l ≤ l.length := by
  induction l with
  | nil => exact Nat.le_refl _
  | cons d l ih =>
    rw [lead_cons, List.length_cons]
    split <;> omega
theorem toNat_eq (c d : UInt8) : ((c.toNat : Int) = (d.toNat : Int)) ↔ c = d := ⟨fun h => UInt8.toNat_inj.1 (by omega), fun h => h ▸ rfl⟩
theorem lines_l0 (s : ByteArray) (hs : s.size ≤ 140737488351232) (c : UInt8) (d : Nat) :
    ∀ i : Nat, i + d = s.size → Ev (fun k => lines_Run.l0 k s (c.toNat : Int) (i : Int)) (((i + lead c ((L s).drop i) : Nat)) : Int) := by
  induction d with
  | zero =>
    intro i hi
    refine ⟨1, fun k hk => ?_⟩
    obtain ⟨q, rfl⟩ : ∃ q, k = q + 1 := ⟨k - 1, (Nat.sub_add_cancel hk).symm⟩
    show lines_Run.l0 (q + 1) _ _ _ = _
    have z : ¬ (i : Int) < (s.size : Int) := by omega
    rw [lines_Run.l0, if_neg z, List.drop_of_length_le (by rw [L_length]; omega)]
    rfl
  | succ d ih =>
    intro i hi
    have hil : i < s.size := by omega
    have hil' : i < (L s).length := by rw [L_length]; exact hil
    have z1 : (i : Int) < (s.size : Int) := by omega
    have z2 : (0 : Int) ≤ (i : Int) := by omega
    have w : wrap64 ((i : Int) + 1) = ((i + 1 : Nat) : Int) := by rw [wrapI (by omega) (by omega)]; omega
    rw [List.drop_eq_getElem_cons hil', lead_cons]
    by_cases h : (L s)[i] = c
    · rw [if_pos h]
      have e : i + (lead c ((L s).drop (i + 1)) + 1) = i + 1 + lead c ((L s).drop (i + 1)) := by clear w; omega
      rw [e]
      refine Ev.step (fun k => ?_) (ih (i + 1) (by clear w; omega))
      rw [lines_Run.l0, if_pos z1, if_pos z2, btL s i hil, if_pos ((toNat_eq _ _).2 h), w]
    · rw [if_neg h]
      refine ⟨1, fun k hk => ?_⟩
      obtain ⟨q, rfl⟩ : ∃ q, k = q + 1 := ⟨k - 1, (Nat.sub_add_cancel hk).symm⟩
      show lines_Run.l0 (q + 1) _ _ _ = _
      rw [lines_Run.l0, if_pos z1, if_pos z2, btL s i hil, if_neg (fun hh => h ((toNat_eq _ _).1 hh))]
      rfl
/-- The four marks, by number. -/
def idx (c : UInt8) : Int := if c = 60 then 0 else if c = 124 then 1 else if c = 61 then 2 else if c = 62 then 3 else -1
theorem idx_is (c : UInt8) : Lib.indexByte [60, 124, 61, 62] c = idx c := by
  unfold idx
  simp only [Lib.indexByte, beq_iff_eq]
  by_cases h1 : c = 60
  · subst h1; rfl
  · by_cases h2 : c = 124
    · subst h2; rfl
    · by_cases h3 : c = 61
      · subst h3; rfl
      · by_cases h4 : c = 62
        · subst h4; rfl
        · simp [h1, h2, h3, h4, Ne.symm h1, Ne.symm h2, Ne.symm h3, Ne.symm h4]
theorem idx_range (c : UInt8) : -1 ≤ idx c ∧ idx c ≤ 3 := by unfold idx; split <;> (try split) <;> (try split) <;> (try split) <;> omega
theorem idx_ev (c : UInt8) : strings_IndexByte.f (⟨#[60, 124, 61, 62]⟩ : ByteArray) (c.toNat : Int) = some (idx c) := by
  unfold strings_IndexByte.f
  rw [Int.toNat_natCast, ← idx_is]
  have : c.toNat.toUInt8 = c := by simp
  rw [this]
/-- How long a line's run of a mark is. -/
def rno (s : ByteArray) : Nat := match L s with
  | [] => 0
  | c :: l => if idx c < 0 then 0 else lead c (c :: l)
theorem rno_le (s : ByteArray) : rno s ≤ s.size := by
  unfold rno
  rw [← L_length]
  split
  · exact Nat.zero_le _
  · rename_i c l h
    split
    · exact Nat.zero_le _
    · rw [h]; exact lead_le _ _
theorem run_ev (s : ByteArray) (hs : s.size ≤ 140737488351232) : Ev (fun k => marks_run.f k s) (rno s : Int) := by
  unfold rno
  cases hl : L s with
  | nil =>
    refine Ev.congr (fun k => ?_) (Ev.now _)
    rw [marks_run.f, toList_L, if_pos hl]
    rfl
  | cons c l =>
    have hlen : (L s).length = l.length + 1 := by rw [hl]; rfl
    rw [L_length] at hlen
    have h0 : 0 < s.size := by omega
    have hb : bt s 0 = (c.toNat : Int) := by
      have := btL s 0 h0
      simp only [hl, List.getElem_cons_zero] at this
      exact this
    have hnil : ¬ s.toList = ([] : List UInt8) := by rw [toList_L, hl]; exact List.cons_ne_nil _ _
    by_cases hc : idx c < 0
    · refine Ev.congr (fun k => ?_) (Ev.now _)
      rw [marks_run.f, if_neg hnil, if_pos (by omega), hb, idx_ev, Option.bind_some, if_pos hc]
      simp [hc]
    · have hr := lines_l0 s hs c s.size 0 (Nat.zero_add _)
      rw [List.drop_zero, hl, Nat.zero_add] at hr
      have e : (match c :: l with | [] => 0 | c :: l => if idx c < 0 then 0 else lead c (c :: l)) = lead c (c :: l) := by simp [hc]
      rw [e]
      refine Ev.congr (fun k => ?_) hr
      rw [marks_run.f, if_neg hnil, if_pos (by omega), hb, idx_ev, Option.bind_some, if_neg hc]
      show (lines_Run.l0 k s (c.toNat : Int) 0).bind _ = lines_Run.l0 k s (c.toNat : Int) ((0 : Nat) : Int)
      cases lines_Run.l0 k s (c.toNat : Int) ((0 : Nat) : Int) <;> rfl
/-- A size as it is held to. -/
def hd (n : Int) : Int := mx 1 (mn n 1000)
theorem hd_range (n : Int) : 1 ≤ hd n ∧ hd n ≤ 1000 := by unfold hd mx mn; split <;> split <;> omega
/-- Which marker of a size a line is; 0: none. -/
def mk (n : Int) (s : ByteArray) : Int := if (rno s : Int) = hd n then (if h : rno s < s.size then (if (L s)[rno s]'(by rw [L_length]; exact h) = 32 then idx ((L s).headD 0) + 1 else 0) else idx ((L s).headD 0) + 1) else 0
theorem mark_ev (n : Int) (s : ByteArray) (hs : s.size ≤ 140737488351232) : Ev (fun k => marks_mark.f k n s) (mk n s) := by
  refine Ev.bind (run_ev s hs) ?_
  refine Ev.congr (fun k => ?_) (Ev.now _)
  show (marks_held.f n).bind _ = _
  rw [marks_held.f, Option.bind_some]
  show (if (rno s : Int) = hd n then _ else _) = _
  unfold mk
  have hh := hd_range n
  by_cases h : (rno s : Int) = hd n
  · rw [if_pos h, if_pos h]
    have hr := rno_le s
    have h0 : 0 < s.size := by omega
    have hb : bt s 0 = (((L s).headD 0).toNat : Int) := by
      have := btL s 0 h0
      rw [List.headD_eq_head?_getD, List.head?_eq_getElem?, List.getElem?_eq_getElem (by rw [L_length]; exact h0)]
      exact this
    have hi := idx_range ((L s).headD 0)
    have hw : wrap64 (idx ((L s).headD 0) + 1) = idx ((L s).headD 0) + 1 := wrapI (by omega) (by omega)
    by_cases h1 : rno s < s.size
    · rw [dif_pos h1, if_pos (by omega), if_pos (by omega), btL s (rno s) h1]
      by_cases h2 : (L s)[rno s]'(by rw [L_length]; exact h1) = 32
      · rw [if_pos h2, if_pos (by rw [h2]; rfl), if_pos (by omega), hb, idx_ev, Option.bind_some, hw]
      · have h3 : ¬ (((L s)[rno s]'(by rw [L_length]; exact h1)).toNat : Int) = 32 := fun hh => h2 ((toNat_eq _ 32).1 hh)
        rw [if_neg h2, if_neg h3]
    · rw [dif_neg h1, if_neg (by omega), if_pos (by omega), hb, idx_ev, Option.bind_some, hw]
  · rw [if_neg h, if_neg h]
/-- The size that no line of these is a marker of. -/
def szl (m : Int) (l : List ByteArray) : Int := l.foldl (fun x s => mx x ((rno s : Int) + 1)) m
def sz (least : Int) (l : List ByteArray) : Int := mn (szl (mx 7 least) l) 1000
theorem size_l0 (l : List ByteArray) (hl : l.length ≤ 1000000) (hs : ∀ s ∈ l, s.size ≤ 140737488351232) (d : Nat) :
    ∀ (i : Nat) (m : Int), i + d = l.length → Ev (fun k => marks_Size.l0 k m l (l.length : Int) (i : Int)) (mn (szl m (l.drop i)) 1000) := by
  induction d with
  | zero =>
    intro i m hi
    refine ⟨1, fun k hk => ?_⟩
    obtain ⟨q, rfl⟩ : ∃ q, k = q + 1 := ⟨k - 1, (Nat.sub_add_cancel hk).symm⟩
    show marks_Size.l0 (q + 1) _ _ _ _ = _
    have z : ¬ (i : Int) < (l.length : Int) := by omega
    rw [marks_Size.l0, if_neg z, List.drop_of_length_le (by omega)]
    rfl
  | succ d ih =>
    intro i m hi
    have hil : i < l.length := by omega
    have z1 : (i : Int) < (l.length : Int) := by omega
    have z2 : (0 : Int) ≤ (i : Int) := by omega
    have w := oneI i (by omega)
    have hin := List.getElem_mem hil
    have hr := rno_le l[i]
    have hsz := hs _ hin
    have wr : wrap64 ((rno l[i] : Int) + 1) = (rno l[i] : Int) + 1 := wrapI (by omega) (by omega)
    rw [List.drop_eq_getElem_cons hil]
    have h := ih (i + 1) (mx m ((rno l[i] : Int) + 1)) (by clear w wr; omega)
    refine Ev.step (f := fun k => (marks_run.f k l[i]).bind fun t => marks_Size.l0 k (mx m (wrap64 (t + 1))) l (l.length : Int) ((i + 1 : Nat) : Int)) (fun k => ?_) (Ev.bind (run_ev l[i] hsz) ?_)
    · rw [marks_Size.l0, if_pos z1, if_pos z2, if_pos z1, rdB l i hil, w]
    · rw [wr]; exact h
theorem Size_ev (least : Int) (ls : List (List ByteArray)) (h1 : ls.length ≤ 1000000) (h2 : ls.flatten.length ≤ 1000000) (hs : ∀ s ∈ ls.flatten, s.size ≤ 140737488351232) : Ev (fun k => marks_Size.f k least ls) (sz least ls.flatten) := by
  have h := size_l0 ls.flatten h2 hs ls.flatten.length 0 (mx 7 least) (Nat.zero_add _)
  rw [List.drop_zero] at h
  refine Ev.congr (fun k => ?_) h
  rw [marks_Size.f, slices_Concat_string_string.f, if_pos ⟨h1, h2⟩]
  rfl
theorem mx_left (a b : Int) : a ≤ mx a b := by unfold mx; split <;> omega
theorem mx_right (a b : Int) : b ≤ mx a b := by unfold mx; split <;> omega
theorem szl_ge (l : List ByteArray) : ∀ m : Int, m ≤ szl m l ∧ ∀ s ∈ l, (rno s : Int) + 1 ≤ szl m l := by
  induction l with
  | nil => intro m; exact ⟨Int.le_refl _, fun s hs => by cases hs⟩
  | cons a l ih =>
    intro m
    obtain ⟨h1, h2⟩ := ih (mx m ((rno a : Int) + 1))
    have ha := mx_left m ((rno a : Int) + 1)
    have hb := mx_right m ((rno a : Int) + 1)
    refine ⟨Int.le_trans ha h1, fun s hs => ?_⟩
    rcases List.mem_cons.1 hs with rfl | hs
    · exact Int.le_trans hb h1
    · exact h2 s hs
theorem sz_le (least : Int) (l : List ByteArray) : sz least l ≤ 1000 := by unfold sz mn; split <;> omega
theorem sz_ge (least : Int) (l : List ByteArray) : 7 ≤ sz least l ∧ mn least 1000 ≤ sz least l := by
  have h := (szl_ge l (mx 7 least)).1
  have h1 := mx_left 7 least
  have h2 := mx_right 7 least
  unfold sz mn
  constructor <;> (repeat' split) <;> omega
theorem sz_nil (least : Int) (l : List ByteArray) : sz least [] ≤ sz least l := by
  have h := (szl_ge l (mx 7 least)).1
  unfold sz mn
  show (if 1000 < mx 7 least then (1000 : Int) else mx 7 least) ≤ _
  (repeat' split) <;> omega
/-- No line is a marker of a size that was told of it. -/
theorem mk_none (least : Int) (l : List ByteArray) (h : ¬ sz least l = 1000) (s : ByteArray) (hs : s ∈ l) : mk (sz least l) s = 0 := by
  have h1 := (szl_ge l (mx 7 least)).2 s hs
  have h2 := (sz_ge least l).1
  have h3 := sz_le least l
  have he : sz least l = szl (mx 7 least) l := by unfold sz mn at h ⊢; split <;> simp_all
  have hh : hd (sz least l) = sz least l := by unfold hd mx mn; (repeat' split) <;> omega
  unfold mk
  rw [if_neg (by rw [hh, he]; omega)]
/-- What is chosen, line by line: in state st (0: no clash), of side sd. -/
def cho (n sd : Int) : List ByteArray → Int → List ByteArray → List ByteArray × Int
  | [], st, acc => if st = 0 then (acc, 0) else ([], 6)
  | s :: l, st, acc => if mk n s = 0 then (if st = 0 ∨ st = sd then cho n sd l st (acc ++ [s]) else cho n sd l st acc) else if mk n s = st + 1 then cho n sd l (Int.tmod (mk n s) 4) acc else ([], 6)
theorem mk_range (n : Int) (s : ByteArray) : 0 ≤ mk n s ∧ mk n s ≤ 4 := by
  have := idx_range ((L s).headD 0)
  unfold mk
  split
  · split
    · split <;> omega
    · omega
  · omega
theorem cho_l0 (n sd : Int) (l : List ByteArray) (hl : l.length ≤ 1000000) (hs : ∀ s ∈ l, s.size ≤ 140737488351232) (d : Nat) :
    ∀ (i : Nat) (st : Int) (acc : List ByteArray), i + d = l.length → acc.length ≤ i → 0 ≤ st → st ≤ 4 → Ev (fun k => marks_Choose.l0 k n sd acc st l (l.length : Int) (i : Int)) (cho n sd (l.drop i) st acc) := by
  induction d with
  | zero =>
    intro i st acc hi _ _ _
    refine ⟨1, fun k hk => ?_⟩
    obtain ⟨q, rfl⟩ : ∃ q, k = q + 1 := ⟨k - 1, (Nat.sub_add_cancel hk).symm⟩
    show marks_Choose.l0 (q + 1) _ _ _ _ _ _ _ = _
    have z : ¬ (i : Int) < (l.length : Int) := by omega
    rw [marks_Choose.l0, if_neg z, List.drop_of_length_le (by omega), cho]
    split <;> rfl
  | succ d ih =>
    intro i st acc hi ha h0 h4
    have hil : i < l.length := by omega
    have z1 : (i : Int) < (l.length : Int) := by omega
    have z2 : (0 : Int) ≤ (i : Int) := by omega
    have w := oneI i (by omega)
    have hin := List.getElem_mem hil
    have hm := mk_range n l[i]
    have wst : wrap64 (st + 1) = st + 1 := wrapI (by omega) (by omega)
    have hd1 : i + 1 + d = l.length := by clear w wst; omega
    have hacc : acc.length < 8796093022208 := by clear w wst; omega
    have ha1 : acc.length ≤ i + 1 := by clear w wst; omega
    have ha2 : (acc ++ [l[i]]).length ≤ i + 1 := by rw [List.length_append, List.length_singleton]; clear w wst; omega
    rw [List.drop_eq_getElem_cons hil, cho]
    obtain ⟨K, hK⟩ := mark_ev n l[i] (hs _ hin)
    have hK : ∀ k, K ≤ k → marks_mark.f k n l[i] = some (mk n l[i]) := hK
    by_cases hm0 : mk n l[i] = 0
    · rw [if_pos hm0]
      by_cases hst : st = 0 ∨ st = sd
      · rw [if_pos hst]
        obtain ⟨J, hJ⟩ := ih (i + 1) st (acc ++ [l[i]]) hd1 ha2 h0 h4
        have hJ : ∀ k, J ≤ k → marks_Choose.l0 k n sd (acc ++ [l[i]]) st l (l.length : Int) ((i + 1 : Nat) : Int) = _ := hJ
        refine ⟨K + J + 2, fun k hk => ?_⟩
        obtain ⟨q, rfl⟩ : ∃ q, k = q + 2 := ⟨k - 2, by clear w wst; omega⟩
        have m1 := hK (q + 1) (by clear w wst; omega)
        have m2 := hJ q (by clear w wst; omega)
        have hj : marks_Choose.j2 (q + 1) n sd acc st l[i] 0 l (l.length : Int) (i : Int) true = some (cho n sd (List.drop (i + 1) l) st (acc ++ [l[i]])) := by
          rw [marks_Choose.j2, if_pos rfl, if_pos hacc, w, m2]
        show marks_Choose.l0 (q + 1 + 1) n sd acc st l (l.length : Int) (i : Int) = _
        rw [marks_Choose.l0, if_pos z1, if_pos z2, if_pos z1, rdB l i hil, m1, Option.bind_some, if_pos hm0, hm0]
        by_cases hs0 : st = 0
        · rw [if_pos hs0]; exact hj
        · rw [if_neg hs0, beq_iff_eq.2 (hst.resolve_left hs0)]; exact hj
      · rw [if_neg hst]
        obtain ⟨J, hJ⟩ := ih (i + 1) st acc hd1 ha1 h0 h4
        have hJ : ∀ k, J ≤ k → marks_Choose.l0 k n sd acc st l (l.length : Int) ((i + 1 : Nat) : Int) = _ := hJ
        refine ⟨K + J + 2, fun k hk => ?_⟩
        obtain ⟨q, rfl⟩ : ∃ q, k = q + 2 := ⟨k - 2, by clear w wst; omega⟩
        have m1 := hK (q + 1) (by clear w wst; omega)
        have m2 := hJ q (by clear w wst; omega)
        have hs0 : ¬ st = 0 := fun hh => hst (Or.inl hh)
        have hs1 : (st == sd) = false := beq_eq_false_iff_ne.2 (fun hh => hst (Or.inr hh))
        show marks_Choose.l0 (q + 1 + 1) n sd acc st l (l.length : Int) (i : Int) = _
        rw [marks_Choose.l0, if_pos z1, if_pos z2, if_pos z1, rdB l i hil, m1, Option.bind_some, if_pos hm0, hm0, if_neg hs0, hs1, marks_Choose.j2, if_neg Bool.false_ne_true, if_pos rfl, w, m2]
    · rw [if_neg hm0]
      by_cases hm1 : mk n l[i] = st + 1
      · rw [if_pos hm1]
        have ht0 : 0 ≤ Int.tmod (mk n l[i]) 4 := Int.tmod_nonneg _ hm.1
        have ht1 : Int.tmod (mk n l[i]) 4 ≤ 4 := by have := Int.tmod_lt_of_pos (mk n l[i]) (b := 4) (by omega); omega
        obtain ⟨J, hJ⟩ := ih (i + 1) (Int.tmod (mk n l[i]) 4) acc hd1 ha1 ht0 ht1
        have hJ : ∀ k, J ≤ k → marks_Choose.l0 k n sd acc (Int.tmod (mk n l[i]) 4) l (l.length : Int) ((i + 1 : Nat) : Int) = _ := hJ
        refine ⟨K + J + 2, fun k hk => ?_⟩
        obtain ⟨q, rfl⟩ : ∃ q, k = q + 2 := ⟨k - 2, by clear w wst; omega⟩
        have m1 := hK (q + 1) (by clear w wst; omega)
        have m2 := hJ q (by clear w wst; omega)
        show marks_Choose.l0 (q + 1 + 1) n sd acc st l (l.length : Int) (i : Int) = _
        rw [marks_Choose.l0, if_pos z1, if_pos z2, if_pos z1, rdB l i hil, m1, Option.bind_some, if_neg hm0, marks_Choose.j2, if_neg Bool.false_ne_true, if_neg hm0, wst, if_pos hm1, w, m2]
      · rw [if_neg hm1]
        refine ⟨K + 2, fun k hk => ?_⟩
        obtain ⟨q, rfl⟩ : ∃ q, k = q + 2 := ⟨k - 2, by clear w wst; omega⟩
        have m1 := hK (q + 1) (by clear w wst; omega)
        show marks_Choose.l0 (q + 1 + 1) n sd acc st l (l.length : Int) (i : Int) = _
        rw [marks_Choose.l0, if_pos z1, if_pos z2, if_pos z1, rdB l i hil, m1, Option.bind_some, if_neg hm0, marks_Choose.j2, if_neg Bool.false_ne_true, if_neg hm0, wst, if_neg hm1]
theorem Choose_ev (n sd : Int) (h1 : 1 ≤ sd) (h3 : sd ≤ 3) (l : List ByteArray) (hl : l.length ≤ 1000000) (hs : ∀ s ∈ l, s.size ≤ 140737488351232) : Ev (fun k => marks_Choose.f k n l sd) (cho n sd l 0 []) := by
  have h := cho_l0 n sd l hl hs l.length 0 0 [] (Nat.zero_add _) (Nat.zero_le _) (by omega) (by omega)
  rw [List.drop_zero] at h
  refine Ev.step (f := fun k => marks_Choose.l0 k n sd [] 0 l (l.length : Int) ((0 : Nat) : Int)) (fun k => ?_) h
  rw [marks_Choose.f, if_neg (by omega), decide_eq_false (by omega), marks_Choose.j0, if_neg Bool.false_ne_true]
  rfl
/-- Lines that are no markers are kept or left, as the state says. -/
theorem cho_plain (n sd : Int) (l r : List ByteArray) (h : ∀ s ∈ l, mk n s = 0) (st : Int) : ∀ acc, cho n sd (l ++ r) st acc = cho n sd r st (if st = 0 ∨ st = sd then acc ++ l else acc) := by
  induction l with
  | nil => intro acc; simp
  | cons a l ih =>
    intro acc
    have ih := ih (fun s hs => h s (List.mem_cons_of_mem _ hs))
    rw [List.cons_append, cho, if_pos (h a (List.mem_cons_self ..))]
    by_cases hst : st = 0 ∨ st = sd
    · rw [if_pos hst, if_pos hst, ih, if_pos hst, List.append_assoc]; rfl
    · rw [if_neg hst, if_neg hst, ih, if_neg hst]
theorem cho_mark (n sd : Int) (s : ByteArray) (r : List ByteArray) (st : Int) (acc : List ByteArray) (h0 : 0 ≤ st) (h : mk n s = st + 1) : cho n sd (s :: r) st acc = cho n sd r (Int.tmod (st + 1) 4) acc := by
  rw [cho, if_neg (by omega), if_pos h, h]
/-- A clash: one marker ahead of each part, and one behind. -/
theorem cho_region (n sd : Int) (h1 : 1 ≤ sd) (h3 : sd ≤ 3) (a b c d : ByteArray) (o u t r : List ByteArray) (ha : mk n a = 1) (hb : mk n b = 2) (hc : mk n c = 3) (hd' : mk n d = 4)
    (ho : ∀ s ∈ o, mk n s = 0) (hu : ∀ s ∈ u, mk n s = 0) (ht : ∀ s ∈ t, mk n s = 0) (acc : List ByteArray) :
    cho n sd (([a] ++ o ++ [b] ++ u ++ [c] ++ t ++ [d]) ++ r) 0 acc = cho n sd r 0 (acc ++ (if sd = 1 then o else if sd = 2 then u else t)) := by
  have e : ([a] ++ o ++ [b] ++ u ++ [c] ++ t ++ [d]) ++ r = a :: (o ++ (b :: (u ++ (c :: (t ++ (d :: r)))))) := by simp
  rw [e, cho_mark n sd a _ 0 acc (by omega) ha, cho_plain n sd o _ ho]
  have t1 : Int.tmod (0 + 1) 4 = 1 := by decide
  have t2 : Int.tmod (1 + 1) 4 = 2 := by decide
  have t3 : Int.tmod (2 + 1) 4 = 3 := by decide
  have t4 : Int.tmod (3 + 1) 4 = 0 := by decide
  rw [t1, cho_mark n sd b _ 1 _ (by omega) hb, t2, cho_plain n sd u _ hu, cho_mark n sd c _ 2 _ (by omega) hc, t3, cho_plain n sd t _ ht, cho_mark n sd d _ 3 _ (by omega) hd', t4]
  have hsd : sd = 1 ∨ sd = 2 ∨ sd = 3 := by omega
  rcases hsd with rfl | rfl | rfl <;> simp
/-- The marker of a size. -/
def mkr (m : UInt8) (n : Int) (name : ByteArray) : List UInt8 := List.replicate (hd n).toNat m ++ (if L name = [] then [] else 32 :: L name)
theorem rep_is (m : UInt8) : ∀ c, Lib.repeatL [m] c = List.replicate c m := by
  intro c
  induction c with
  | zero => rfl
  | succ c ih => rw [Lib.repeatL, ih, List.replicate_succ]; rfl
theorem lead_rep (m : UInt8) (l : List UInt8) (h : lead m l = 0) : ∀ c, lead m (List.replicate c m ++ l) = c := by
  intro c
  induction c with
  | zero => exact h
  | succ c ih => rw [List.replicate_succ, List.cons_append, lead_cons, if_pos rfl, ih]
theorem mkr_mk (m : UInt8) (n : Int) (name : ByteArray) (hm : 0 ≤ idx m) (h32 : ¬ (32 : UInt8) = m) : mk n (B (mkr m n name)) = idx m + 1 := by
  have hh := hd_range n
  obtain ⟨c, hc⟩ : ∃ c, (hd n).toNat = c + 1 := ⟨(hd n).toNat - 1, by omega⟩
  let tl := (if L name = [] then [] else 32 :: L name)
  have ht : lead m tl = 0 := by
    show lead m (if L name = [] then [] else 32 :: L name) = 0
    split
    · rfl
    · rw [lead_cons, if_neg h32]
  have e : L (B (mkr m n name)) = m :: (List.replicate c m ++ tl) := by rw [L_B]; unfold mkr; rw [hc, List.replicate_succ, List.cons_append]
  have hr : rno (B (mkr m n name)) = c + 1 := by
    unfold rno
    rw [e]
    show (if idx m < 0 then 0 else lead m (m :: (List.replicate c m ++ tl))) = _
    rw [if_neg (by omega), lead_cons, if_pos rfl, lead_rep m tl ht]
  have hhd : (L (B (mkr m n name))).headD 0 = m := by rw [e]; rfl
  unfold mk
  rw [hhd, if_pos (by rw [hr]; omega)]
  split
  · rename_i hlt
    have hg : (L (B (mkr m n name)))[rno (B (mkr m n name))]'(by rw [L_length]; exact hlt) = 32 := by
      have hlen : c + 1 < (L (B (mkr m n name))).length := by rw [L_length, ← hr]; exact hlt
      have : (L (B (mkr m n name)))[rno (B (mkr m n name))]? = some 32 := by
        rw [hr, e, List.getElem?_cons_succ, List.getElem?_append_right (by rw [List.length_replicate]; exact Nat.le_refl _), List.length_replicate, Nat.sub_self]
        rw [e, List.length_cons, List.length_append, List.length_replicate] at hlen
        by_cases hn : L name = []
        · have : tl = [] := if_pos hn
          rw [this] at hlen; simp at hlen
        · have : tl = 32 :: L name := if_neg hn
          rw [this]; rfl
      rw [List.getElem?_eq_getElem (by rw [L_length]; exact hlt)] at this
      exact Option.some.inj this
    rw [if_pos hg]
  · rfl
theorem marker_is (i : Nat) (hi : i ≤ 3) (n : Int) (name : ByteArray) (hn : name.size ≤ 140737488351232) : marks_marker.f (i : Int) n name = some (B (mkr ([60, 124, 61, 62].getD i 0) n name)) := by
  have hh := hd_range n
  have w := oneI i (by omega)
  have hx : ((⟨#[60, 124, 61, 62]⟩ : ByteArray).extract i (i + 1)) = B [[60, 124, 61, 62].getD i 0] := by
    have : i = 0 ∨ i = 1 ∨ i = 2 ∨ i = 3 := by omega
    rcases this with rfl | rfl | rfl | rfl <;> rfl
  have hr : strings_Repeat.f (B [([60, 124, 61, 62] : List UInt8).getD i 0]) (hd n) = some (B (List.replicate (hd n).toNat ([60, 124, 61, 62].getD i 0))) := by
    unfold strings_Repeat.f
    have hb1 : (B [([60, 124, 61, 62] : List UInt8).getD i 0]).size = 1 := by rw [← L_length, L_B]; rfl
    rw [if_pos ⟨by omega, by omega, by rw [hb1]; decide⟩]
    congr 1
    show B (Lib.repeatL [([60, 124, 61, 62] : List UInt8).getD i 0] (hd n).toNat) = _
    rw [rep_is]
  rw [marks_marker.f, w, if_pos (by clear w; omega), if_pos (by clear w; omega), if_pos (by clear w; omega), marks_held.f, Option.bind_some]
  show (strings_Repeat.f (((⟨#[60, 124, 61, 62]⟩ : ByteArray).extract ((i : Int).toNat) (((i + 1 : Nat) : Int).toNat))) (hd n)).bind _ = _
  rw [Int.toNat_natCast, Int.toNat_natCast, hx, hr, Option.bind_some, toList_L]
  by_cases hnm : L name = []
  · rw [if_pos hnm]; unfold mkr; rw [if_pos hnm, List.append_nil]
  · have hsz : ((⟨#[32]⟩ : ByteArray) ++ name).size = 1 + name.size := by rw [ByteArray.size_append]; rfl
    have hrs : (B (List.replicate (hd n).toNat (([60, 124, 61, 62] : List UInt8).getD i 0))).size = (hd n).toNat := by rw [← L_length, L_B, List.length_replicate]
    rw [if_neg hnm, if_pos (by omega), hsz, hrs, if_pos (by clear w; omega)]
    congr 1
    apply L_inj
    rw [L_append, L_append, L_B, L_B]
    unfold mkr
    rw [if_neg hnm]
    rfl
/-- A clash, laid. -/
def region (n : Int) (x y z : ByteArray) (o b t : List ByteArray) : List ByteArray := [B (mkr 60 n x)] ++ o ++ [B (mkr 124 n y)] ++ b ++ [B (mkr 61 n (B []))] ++ t ++ [B (mkr 62 n z)]
theorem Region_is (n : Int) (x y z : ByteArray) (hx : x.size ≤ 140737488351232) (hy : y.size ≤ 140737488351232) (hz : z.size ≤ 140737488351232) (o b t : List ByteArray) (h : o.length + b.length + t.length ≤ 999000) :
    marks_Region.f n x y z o b t = some (region n x y z o b t) := by
  have e0 : marks_marker.f 0 n x = some (B (mkr 60 n x)) := marker_is 0 (by omega) n x hx
  have e1 : marks_marker.f 1 n y = some (B (mkr 124 n y)) := marker_is 1 (by omega) n y hy
  have e2 : marks_marker.f 2 n (⟨#[]⟩ : ByteArray) = some (B (mkr 61 n (B []))) := marker_is 2 (by omega) n (B []) (by show 0 ≤ _; omega)
  have e3 : marks_marker.f 3 n z = some (B (mkr 62 n z)) := marker_is 3 (by omega) n z hz
  rw [marks_Region.f, e0, Option.bind_some, e1, Option.bind_some, e2, Option.bind_some, e3, Option.bind_some, slices_Concat_string_string.f, if_pos ⟨by simp, by simp; omega⟩, Option.bind_some]
  congr 1
  unfold region
  simp
theorem region_length (n : Int) (x y z : ByteArray) (o b t : List ByteArray) : (region n x y z o b t).length = o.length + b.length + t.length + 4 := by unfold region; simp; omega
theorem region_cho (n sd : Int) (h1 : 1 ≤ sd) (h3 : sd ≤ 3) (x y z : ByteArray) (o b t r : List ByteArray) (ho : ∀ s ∈ o, mk n s = 0) (hb : ∀ s ∈ b, mk n s = 0) (ht : ∀ s ∈ t, mk n s = 0) (acc : List ByteArray) :
    cho n sd (region n x y z o b t ++ r) 0 acc = cho n sd r 0 (acc ++ (if sd = 1 then o else if sd = 2 then b else t)) :=
  cho_region n sd h1 h3 _ _ _ _ o b t r (mkr_mk 60 n x (by decide) (by decide)) (mkr_mk 124 n y (by decide) (by decide)) (mkr_mk 61 n _ (by decide) (by decide)) (mkr_mk 62 n z (by decide) (by decide)) ho hb ht acc
theorem B_size (l : List UInt8) : (B l).size = l.length := by rw [← L_length, L_B]
theorem mkr_size (m : UInt8) (n : Int) (name : ByteArray) : (B (mkr m n name)).size ≤ 1001 + name.size := by
  have := hd_range n
  rw [B_size]
  unfold mkr
  rw [List.length_append, List.length_replicate]
  split
  · rw [List.length_nil]; omega
  · rw [List.length_cons, L_length]; omega
theorem region_small (n : Int) (x y z : ByteArray) (hx : x.size ≤ 1000) (hy : y.size ≤ 1000) (hz : z.size ≤ 1000) (o b t : List ByteArray) (ho : ∀ s ∈ o, s.size ≤ 140737488351232) (hb : ∀ s ∈ b, s.size ≤ 140737488351232) (ht : ∀ s ∈ t, s.size ≤ 140737488351232) :
    ∀ s ∈ region n x y z o b t, s.size ≤ 140737488351232 := by
  intro s hs
  unfold region at hs
  simp only [List.mem_append, List.mem_singleton] at hs
  have m1 := mkr_size 60 n x
  have m2 := mkr_size 124 n y
  have m3 := mkr_size 61 n (B [])
  have m4 := mkr_size 62 n z
  have m5 : (B []).size = 0 := rfl
  rcases hs with (((((rfl | h) | rfl) | h) | rfl) | h) | rfl
  · omega
  · exact ho s h
  · omega
  · exact hb s h
  · omega
  · exact ht s h
  · omega
end Go.Proofs.Ytlkgdfeeepiidaa.Mk
namespace Go.Proofs.Ytlkgdfeeepiidaa.Mk
open Go.RowKit Go.Proofs.Ytlkgdfeeepiidaa.All Go.Proofs.Ytlkgdfeeepiidaa.TokI Go.Proofs.Ytlkgdfeeepiidaa.Tok Go.Proofs.YtlkgdfeeepiidaaW.PrintWords Go.Proofs.YtlkgdfeeepiidaaW.PrintLast Go.Proofs.YtlkgdfeeepiidaaW.PrintMore
open Go.Proofs.Ytlkgdfeeepiidaa.Wv (seg Ch chs chunks outc gap same C75 Chain tri runl)
/-- The lines of a part. -/
def pc (l : List ByteArray) (f t : Nat) : List ByteArray := (l.take t).drop f
theorem pc_length (l : List ByteArray) (f t : Nat) : (pc l f t).length ≤ l.length := by unfold pc; rw [List.length_drop, List.length_take]; omega
theorem pc_sub {l : List ByteArray} {f t : Nat} {s : ByteArray} (h : s ∈ pc l f t) : s ∈ l := List.mem_of_mem_take (List.mem_of_mem_drop h)
theorem pc_seg (u : List ByteArray) (l : List ByteArray) (f t : Nat) : seg (TokI.nums u l) f t = TokI.nums u (pc l f t) := by
  unfold seg pc TokI.nums
  rw [List.map_drop, List.map_take]
/-- A chunk that lies within the lists; and where nothing differs between the sides, nothing does. -/
structure Good (b o t : List Int) (c : Ch) : Prop where
  bx : c.x0 ≤ c.x1
  bl : c.x1 ≤ b.length
  ox : c.y0 ≤ c.y1
  ol : c.y1 ≤ o.length
  tx : c.z0 ≤ c.z1
  tl : c.z1 ≤ t.length
  eq : ¬ c.c = 2 → ¬ c.c = 3 → ¬ c.c = 5 → seg o c.y0 c.y1 = seg t c.z0 c.z1
theorem outc_four (b o t : List Int) (h2 : ¬ outc b o t = 2) (h3 : ¬ outc b o t = 3) (h5 : ¬ outc b o t = 5) : o = t := by
  unfold outc at h2 h3 h5
  split at h5
  · rename_i he; exact beq_iff_eq.1 he
  · rename_i he
    rw [if_neg he] at h2 h3
    exfalso
    split at h5
    · rename_i he2; rw [if_pos he2] at h3; exact h3 rfl
    · rename_i he2
      rw [if_neg he2] at h2
      split at h5
      · rename_i he3; rw [if_pos he3] at h2; exact h2 rfl
      · exact h5 rfl
theorem same_good (b o t : List Int) (x y z n : Nat) (h1 : x + n ≤ b.length) (h2 : y + n ≤ o.length) (h3 : z + n ≤ t.length) (he : seg o y (y + n) = seg t z (z + n)) : ∀ c ∈ same x y z n, Good b o t c := by
  unfold same
  split
  · intro c h; cases h
  · intro c h
    rw [List.mem_singleton] at h
    subst h
    exact ⟨Nat.le_add_right _ _, h1, Nat.le_add_right _ _, h2, Nat.le_add_right _ _, h3, fun _ _ _ => he⟩
theorem gap_good (b o t : List Int) (x i y j z k : Nat) (h1 : x ≤ i) (h2 : i ≤ b.length) (h3 : y ≤ j) (h4 : j ≤ o.length) (h5 : z ≤ k) (h6 : k ≤ t.length) : Good b o t (gap b o t x i y j z k) :=
  ⟨h1, h2, h3, h4, h5, h6, fun a b c => outc_four _ _ _ a b c⟩
theorem chs_good (b o t : List Int) (K : List Wv.Tri) : ∀ (x y z n : Nat), Chain b o t (x + n) (y + n) (z + n) K → seg o y (y + n) = seg t z (z + n) → ∀ c ∈ chs b o t x y z n K, Good b o t c := by
  induction K with
  | nil =>
    intro x y z n hc he c h
    obtain ⟨hx, hy, hz⟩ := hc.le
    rw [chs] at h
    rcases List.mem_append.1 h with h | h
    · exact same_good b o t x y z n hx hy hz he c h
    · split at h
      · rw [List.mem_singleton] at h
        subst h
        exact gap_good b o t _ _ _ _ _ _ hx (Nat.le_refl _) hy (Nat.le_refl _) hz (Nat.le_refl _)
      · cases h
  | cons p K ih =>
    obtain ⟨i, j, k⟩ := p
    intro x y z n hc he
    obtain ⟨hx, hy, hz⟩ := hc.le
    cases hc with
    | cons _ _ _ _ _ _ _ h1 h2 h3 hx' hy' hz' e1 e2 hc =>
    rw [chs]
    split
    · rename_i hh
      obtain ⟨rfl, rfl, rfl⟩ := hh
      refine ih x y z (n + 1) hc ?_
      rw [show y + (n + 1) = y + n + 1 from rfl, show z + (n + 1) = z + n + 1 from rfl, ← Wv.seg_seg o y (y + n) (y + n + 1) (by omega) (by omega), ← Wv.seg_seg t z (z + n) (z + n + 1) (by omega) (by omega), he, Wv.seg_one o (y + n) hy', Wv.seg_one t (z + n) hz', ← e1, ← e2]
    · intro c h
      rcases List.mem_append.1 h with h | h
      · exact same_good b o t x y z n hx hy hz he c h
      · rcases List.mem_cons.1 h with rfl | h
        · exact gap_good b o t _ _ _ _ _ _ h1 (Nat.le_of_lt hx') h2 (Nat.le_of_lt hy') h3 (Nat.le_of_lt hz')
        · exact ih i j k 1 hc (by rw [Wv.seg_one o j hy', Wv.seg_one t k hz', ← e1, ← e2]) c h
theorem chunks_good (b o t : List Int) : ∀ c ∈ chunks b o t, Good b o t c := by
  refine chs_good b o t _ 0 0 0 0 (Wv.chain_tri b o t) ?_
  rw [Wv.seg_nil, Wv.seg_nil]
theorem chunks_len (b o t : List Int) : (chunks b o t).length ≤ 2 * b.length + 2 := by
  have h1 := Wv.chs_length b o t (tri b o t) 0 0 0 0
  have h2 := Wv.trs_length (Lcs.prs b o 0 0) (Lcs.prs b t 0 0) b.length 0
  unfold chunks
  unfold tri at h1 ⊢
  omega
/-- What comes of a chunk. -/
def part (n : Int) (x y z : ByteArray) (b o t : List ByteArray) (c : Ch) : List ByteArray :=
  if c.c = 1 ∨ c.c = 3 then pc t c.z0 c.z1 else if c.c = 5 then region n x y z (pc o c.y0 c.y1) (pc b c.x0 c.x1) (pc t c.z0 c.z1) else pc o c.y0 c.y1
/-- How many clashes there are. -/
def cnt : List Ch → Nat
  | [] => 0
  | c :: l => if c.c = 5 then cnt l + 1 else cnt l
theorem cnt_le (l : List Ch) : cnt l ≤ l.length := by
  induction l with
  | nil => exact Nat.le_refl _
  | cons c l ih => rw [cnt, List.length_cons]; split <;> omega
theorem part_length (n : Int) (x y z : ByteArray) (b o t : List ByteArray) (c : Ch) : (part n x y z b o t c).length ≤ b.length + o.length + t.length + 4 := by
  have h1 := pc_length b c.x0 c.x1
  have h2 := pc_length o c.y0 c.y1
  have h3 := pc_length t c.z0 c.z1
  unfold part
  split
  · omega
  · split
    · rw [region_length]; omega
    · omega
theorem rdC (L : List Ch) (i : Nat) (h : i < L.length) : rd_T75 (L.map C75) (i : Int) = C75 L[i] := by unfold rd_T75; simp [h]
theorem merge_j1 (n : Int) (x y z : ByteArray) (hx : x.size ≤ 1000) (hy : y.size ≤ 1000) (hz : z.size ≤ 1000) (b o t : List ByteArray) (hl : b.length + o.length + t.length ≤ 1000) (c : Ch) (acc : List ByteArray) (ha : acc.length ≤ 100000000) (m : Nat) (hm : m ≤ 100000000) (cs : List S75) (N : Int) (i : Nat) (hi : i ≤ 100000000) (r : List ByteArray × Int)
    (h : Ev (fun k => marks_Merge.l0 k n b o t (acc ++ part n x y z b o t c) ((if c.c = 5 then m + 1 else m : Nat) : Int) cs N ((i + 1 : Nat) : Int) x y z) r) :
    Ev (fun k => marks_Merge.j1 k n b o t acc (m : Int) (pc b c.x0 c.x1) (pc o c.y0 c.y1) (pc t c.z0 c.z1) cs N (i : Int) c.c (decide (c.c = 1 ∨ c.c = 3)) x y z) r := by
  have w := oneI i (by omega)
  have wm := oneI m (by omega)
  have h1 := pc_length b c.x0 c.x1
  have h2 := pc_length o c.y0 c.y1
  have h3 := pc_length t c.z0 c.z1
  refine Ev.step (fun k => ?_) h
  by_cases h13 : c.c = 1 ∨ c.c = 3
  · have h5 : ¬ c.c = 5 := by clear w wm; omega
    rw [marks_Merge.j1, if_pos (decide_eq_true h13), if_pos (by clear w wm; omega), w, if_neg h5]
    unfold part
    rw [if_pos h13]
  · by_cases h5 : c.c = 5
    · have hR := Region_is n x y z (by clear w wm; omega) (by clear w wm; omega) (by clear w wm; omega) (pc o c.y0 c.y1) (pc b c.x0 c.x1) (pc t c.z0 c.z1) (by clear w wm; omega)
      have hlen := region_length n x y z (pc o c.y0 c.y1) (pc b c.x0 c.x1) (pc t c.z0 c.z1)
      rw [marks_Merge.j1, decide_eq_false h13, if_neg Bool.false_ne_true, if_pos h5, hR, Option.bind_some, if_pos (by clear w wm; omega), w, wm, if_pos h5]
      unfold part
      rw [if_neg h13, if_pos h5]
    · rw [marks_Merge.j1, decide_eq_false h13, if_neg Bool.false_ne_true, if_neg h5, if_pos (by clear w wm; omega), w, if_neg h5]
      unfold part
      rw [if_neg h13, if_neg h5]
theorem merge_l0 (n : Int) (x y z : ByteArray) (hx : x.size ≤ 1000) (hy : y.size ≤ 1000) (hz : z.size ≤ 1000) (b o t : List ByteArray) (hl : b.length + o.length + t.length ≤ 1000) (cs : List Ch) (hcs : cs.length ≤ 10000)
    (hg : ∀ c ∈ cs, c.x0 ≤ c.x1 ∧ c.x1 ≤ b.length ∧ c.y0 ≤ c.y1 ∧ c.y1 ≤ o.length ∧ c.z0 ≤ c.z1 ∧ c.z1 ≤ t.length) (d : Nat) :
    ∀ (i : Nat) (acc : List ByteArray) (m : Nat), i + d = cs.length → acc.length ≤ 2000 * i → m ≤ i →
      Ev (fun k => marks_Merge.l0 k n b o t acc (m : Int) (cs.map C75) (cs.length : Int) (i : Int) x y z) (acc ++ ((cs.drop i).map (part n x y z b o t)).flatten, ((m + cnt (cs.drop i) : Nat) : Int)) := by
  induction d with
  | zero =>
    intro i acc m hi _ _
    refine ⟨1, fun k hk => ?_⟩
    obtain ⟨q, rfl⟩ : ∃ q, k = q + 1 := ⟨k - 1, (Nat.sub_add_cancel hk).symm⟩
    show marks_Merge.l0 (q + 1) _ _ _ _ _ _ _ _ _ _ _ _ = _
    have e : ¬ (i : Int) < (cs.length : Int) := by omega
    rw [marks_Merge.l0, if_neg e, List.drop_of_length_le (by omega)]
    simp [cnt]
  | succ d ih =>
    intro i acc m hi ha hm
    have hil : i < cs.length := by omega
    have z1 : (i : Int) < (cs.length : Int) := by omega
    have z2 : (0 : Int) ≤ (i : Int) := by omega
    have z3 : (i : Int) < ((cs.map C75).length : Int) := by rw [List.length_map]; omega
    obtain ⟨g1, g2, g3, g4, g5, g6⟩ := hg _ (List.getElem_mem hil)
    have hpl := part_length n x y z b o t cs[i]
    have ih := ih (i + 1) (acc ++ part n x y z b o t cs[i]) (if cs[i].c = 5 then m + 1 else m) (by omega) (by rw [List.length_append]; omega) (by split <;> omega)
    have e1 : (acc ++ part n x y z b o t cs[i]) ++ ((cs.drop (i + 1)).map (part n x y z b o t)).flatten = acc ++ ((cs.drop i).map (part n x y z b o t)).flatten := by
      rw [List.drop_eq_getElem_cons hil, List.map_cons, List.flatten_cons, List.append_assoc]
    have e2 : (if cs[i].c = 5 then m + 1 else m) + cnt (cs.drop (i + 1)) = m + cnt (cs.drop i) := by
      rw [List.drop_eq_getElem_cons hil, cnt]; split <;> omega
    rw [e1, e2] at ih
    have hj := merge_j1 n x y z hx hy hz b o t hl cs[i] acc (by omega) m (by omega) (cs.map C75) (cs.length : Int) i (by omega) _ ih
    refine Ev.step (fun k => ?_) hj
    have r1 : (C75 cs[i]).f0.f0 = (cs[i].x0 : Int) := rfl
    have r2 : (C75 cs[i]).f0.f1 = (cs[i].x1 : Int) := rfl
    have r3 : (C75 cs[i]).f1.f0 = (cs[i].y0 : Int) := rfl
    have r4 : (C75 cs[i]).f1.f1 = (cs[i].y1 : Int) := rfl
    have r5 : (C75 cs[i]).f2.f0 = (cs[i].z0 : Int) := rfl
    have r6 : (C75 cs[i]).f2.f1 = (cs[i].z1 : Int) := rfl
    have r7 : (C75 cs[i]).f3 = cs[i].c := rfl
    have p1 : (b.take ((cs[i].x1 : Int)).toNat).drop ((cs[i].x0 : Int)).toNat = pc b cs[i].x0 cs[i].x1 := rfl
    have p2 : (o.take ((cs[i].y1 : Int)).toNat).drop ((cs[i].y0 : Int)).toNat = pc o cs[i].y0 cs[i].y1 := rfl
    have p3 : (t.take ((cs[i].z1 : Int)).toNat).drop ((cs[i].z0 : Int)).toNat = pc t cs[i].z0 cs[i].z1 := rfl
    rw [marks_Merge.l0, if_pos z1, if_pos z2, if_pos z3, rdC cs i hil, r1, r2, r3, r4, r5, r6, r7, if_pos (by omega), if_pos (by omega), if_pos (by omega), p1, Option.bind_some, if_pos (by omega), if_pos (by omega), if_pos (by omega), p2, Option.bind_some, if_pos (by omega), if_pos (by omega), if_pos (by omega), p3, Option.bind_some]
    by_cases hc1 : cs[i].c = 1
    · rw [if_pos hc1, decide_eq_true (Or.inl hc1), beq_iff_eq.2 hc1]
    · rw [if_neg hc1]
      congr 1
      by_cases hc3 : cs[i].c = 3
      · rw [decide_eq_true (Or.inr hc3), beq_iff_eq.2 hc3]
      · rw [decide_eq_false (by omega), beq_eq_false_iff_ne.2 hc3]
/-- The chunks of three lists of lines. -/
def chk (b o t : List ByteArray) : List Ch := chunks (TokI.nums (uni [b, o, t]) b) (TokI.nums (uni [b, o, t]) o) (TokI.nums (uni [b, o, t]) t)
def mrgL (n : Int) (x y z : ByteArray) (b o t : List ByteArray) : List ByteArray := ((chk b o t).map (part n x y z b o t)).flatten
theorem Merge_ev (n : Int) (x y z : ByteArray) (hx : x.size ≤ 1000) (hy : y.size ≤ 1000) (hz : z.size ≤ 1000) (b o t : List ByteArray) (hl : b.length + o.length + t.length ≤ 1000) :
    Ev (fun k => marks_Merge.f k n x y z b o t) (mrgL n x y z b o t, (cnt (chk b o t) : Int)) := by
  let U := uni [b, o, t]
  have hI := Ids_ev [b, o, t] (by simp) (by simp; omega)
  have hC := Wv.Chunks_ev (TokI.nums U b) (TokI.nums U o) (TokI.nums U t) (by rw [TokI.nums_length]; omega) (by rw [TokI.nums_length]; omega) (by rw [TokI.nums_length]; omega)
  have hcl := chunks_len (TokI.nums U b) (TokI.nums U o) (TokI.nums U t)
  rw [TokI.nums_length] at hcl
  have hM := merge_l0 n x y z hx hy hz b o t hl (chk b o t) (by show (chunks (TokI.nums U b) (TokI.nums U o) (TokI.nums U t)).length ≤ _; omega) (fun c hc => by
    have hg := chunks_good (TokI.nums U b) (TokI.nums U o) (TokI.nums U t) c hc
    have h1 := hg.bl; have h2 := hg.ol; have h3 := hg.tl
    rw [TokI.nums_length] at h1 h2 h3
    exact ⟨hg.bx, h1, hg.ox, h2, hg.tx, h3⟩) (chk b o t).length 0 [] 0 (Nat.zero_add _) (Nat.zero_le _) (Nat.le_refl _)
  rw [List.drop_zero, List.nil_append, Nat.zero_add] at hM
  refine Ev.bind hI ?_
  have l3 : (([b, o, t].map (TokI.nums (uni [b, o, t]))).length : Int) = 3 := rfl
  have r0 : rd_L3 ([b, o, t].map (TokI.nums (uni [b, o, t]))) 0 = TokI.nums U b := rfl
  have r1 : rd_L3 ([b, o, t].map (TokI.nums (uni [b, o, t]))) 1 = TokI.nums U o := rfl
  have r2 : rd_L3 ([b, o, t].map (TokI.nums (uni [b, o, t]))) 2 = TokI.nums U t := rfl
  refine Ev.congr (fun k => ?_) (Ev.bind hC (f := fun k cs => marks_Merge.l0 k n b o t [] 0 cs (cs.length : Int) 0 x y z) ?_)
  · show (if 0 < (([b, o, t].map (TokI.nums (uni [b, o, t]))).length : Int) then _ else _) = _
    rw [l3, if_pos (by omega), if_pos (by omega), if_pos (by omega), r0, r1, r2]
  · refine Ev.congr (fun k => ?_) hM
    show marks_Merge.l0 k n b o t [] 0 ((chk b o t).map C75) (((chk b o t).map C75).length : Int) 0 x y z = _
    rw [List.length_map]
    rfl
/-- With a size that no line is a marker of, each side is chosen back. -/
def pick (sd : Int) (b o t : List ByteArray) (c : Ch) : List ByteArray :=
  if c.c = 1 ∨ c.c = 3 then pc t c.z0 c.z1 else if c.c = 5 then (if sd = 1 then pc o c.y0 c.y1 else if sd = 2 then pc b c.x0 c.x1 else pc t c.z0 c.z1) else pc o c.y0 c.y1
theorem cho_parts (n sd : Int) (h1 : 1 ≤ sd) (h3 : sd ≤ 3) (x y z : ByteArray) (b o t : List ByteArray) (hb : ∀ s ∈ b, mk n s = 0) (ho : ∀ s ∈ o, mk n s = 0) (ht : ∀ s ∈ t, mk n s = 0) (cs : List Ch) :
    ∀ acc, cho n sd ((cs.map (part n x y z b o t)).flatten) 0 acc = (acc ++ (cs.map (pick sd b o t)).flatten, 0) := by
  induction cs with
  | nil => intro acc; simp [cho]
  | cons c cs ih =>
    intro acc
    have pb : ∀ s ∈ pc b c.x0 c.x1, mk n s = 0 := fun s hs => hb s (pc_sub hs)
    have po : ∀ s ∈ pc o c.y0 c.y1, mk n s = 0 := fun s hs => ho s (pc_sub hs)
    have pt : ∀ s ∈ pc t c.z0 c.z1, mk n s = 0 := fun s hs => ht s (pc_sub hs)
    rw [List.map_cons, List.flatten_cons, List.map_cons, List.flatten_cons]
    have e : cho n sd (part n x y z b o t c ++ (cs.map (part n x y z b o t)).flatten) 0 acc = cho n sd ((cs.map (part n x y z b o t)).flatten) 0 (acc ++ pick sd b o t c) := by
      unfold part pick
      by_cases h13 : c.c = 1 ∨ c.c = 3
      · rw [if_pos h13, if_pos h13, cho_plain n sd _ _ pt, if_pos (Or.inl rfl)]
      · rw [if_neg h13, if_neg h13]
        by_cases h5 : c.c = 5
        · rw [if_pos h5, if_pos h5, region_cho n sd h1 h3 x y z _ _ _ _ po pb pt]
        · rw [if_neg h5, if_neg h5, cho_plain n sd _ _ po, if_pos (Or.inl rfl)]
    rw [e, ih, List.append_assoc]
/-! The laws' small functions. -/
theorem few_l0 (l : List ByteArray) (hl : l.length ≤ 40) (d : Nat) : ∀ j : Nat, j + d = l.length → (∀ q (h : q < l.length), q < j → l[q].size ≤ 2000) → ∃ b, Ev (fun k => emendationlaw06_few.l0 k l (l.length : Int) (j : Int)) b ∧ (b = true → ∀ q (h : q < l.length), l[q].size ≤ 2000) := by
  induction d with
  | zero =>
    intro j hj hq
    refine ⟨true, ⟨1, fun k hk => ?_⟩, fun _ q h => hq q h (by omega)⟩
    obtain ⟨q, rfl⟩ : ∃ q, k = q + 1 := ⟨k - 1, (Nat.sub_add_cancel hk).symm⟩
    show emendationlaw06_few.l0 (q + 1) _ _ _ = _
    have z : ¬ (j : Int) < (l.length : Int) := by omega
    rw [emendationlaw06_few.l0, if_neg z]
  | succ d ih =>
    intro j hj hq
    have hjl : j < l.length := by omega
    have z1 : (j : Int) < (l.length : Int) := by omega
    have z2 : (0 : Int) ≤ (j : Int) := by omega
    have w := oneI j (by omega)
    by_cases hb : (l[j].size : Int) > 2000
    · refine ⟨false, ⟨1, fun k hk => ?_⟩, fun h => by cases h⟩
      obtain ⟨q, rfl⟩ : ∃ q, k = q + 1 := ⟨k - 1, (Nat.sub_add_cancel hk).symm⟩
      show emendationlaw06_few.l0 (q + 1) _ _ _ = _
      rw [emendationlaw06_few.l0, if_pos z1, if_pos z2, if_pos z1, rdB l j hjl, if_pos hb]
    · obtain ⟨b, e, f⟩ := ih (j + 1) (by clear w; omega) (fun q h hlt => by
        rcases Nat.lt_or_ge q j with h' | h'
        · exact hq q h h'
        · have : q = j := by clear w; omega
          subst this
          clear w
          omega)
      refine ⟨b, Ev.step (fun k => ?_) e, f⟩
      rw [emendationlaw06_few.l0, if_pos z1, if_pos z2, if_pos z1, rdB l j hjl, if_neg hb, w]
theorem few_ev (l : List ByteArray) : ∃ b, Ev (fun k => emendationlaw06_few.f k l) b ∧ (b = true → l.length ≤ 40 ∧ ∀ s ∈ l, s.size ≤ 2000) := by
  by_cases h : (l.length : Int) > 40
  · refine ⟨false, ⟨0, fun k _ => ?_⟩, fun h => by cases h⟩
    show emendationlaw06_few.f k l = _
    rw [emendationlaw06_few.f, if_pos h]
  · obtain ⟨b, e, f⟩ := few_l0 l (by omega) l.length 0 (Nat.zero_add _) (fun q _ h => absurd h (Nat.not_lt_zero q))
    refine ⟨b, Ev.congr (fun k => ?_) e, fun hb => ⟨by omega, fun s hs => ?_⟩⟩
    · rw [emendationlaw06_few.f, if_neg h]; rfl
    · obtain ⟨q, hq, rfl⟩ := List.getElem_of_mem hs
      exact f hb q hq
theorem same_l0 (l : List ByteArray) (hl : l.length ≤ 1000000) (d : Nat) : ∀ i : Nat, i + d = l.length → Ev (fun k => emendationref02_Same.l0 k l l (l.length : Int) (i : Int)) true := by
  induction d with
  | zero =>
    intro i hi
    refine ⟨1, fun k hk => ?_⟩
    obtain ⟨q, rfl⟩ : ∃ q, k = q + 1 := ⟨k - 1, (Nat.sub_add_cancel hk).symm⟩
    show emendationref02_Same.l0 (q + 1) _ _ _ _ = _
    have z : ¬ (i : Int) < (l.length : Int) := by omega
    rw [emendationref02_Same.l0, if_neg z]
  | succ d ih =>
    intro i hi
    have z1 : (i : Int) < (l.length : Int) := by omega
    have z2 : (0 : Int) ≤ (i : Int) := by omega
    have w := oneI i (by omega)
    refine Ev.step (fun k => ?_) (ih (i + 1) (by clear w; omega))
    rw [emendationref02_Same.l0, if_pos z1, if_pos z2, if_pos z1, if_pos z1, if_pos rfl, w]
theorem same_ev (l : List ByteArray) (hl : l.length ≤ 1000000) : Ev (fun k => emendationref02_Same.f k l l) true := by
  refine Ev.congr (fun k => ?_) (same_l0 l hl l.length 0 (Nat.zero_add _))
  rw [emendationref02_Same.f, if_pos rfl]
  rfl
theorem uni_abc : uni [[B [97]], [B [98]], [B [99]]] = [B [97], B [98], B [99]] := by
  refine up_eq (uni_up _) ?_ (fun x => ?_)
  · unfold Up; simp [lt, toList_L, L_B, Op.bytesLess]
  · rw [uni_mem]; rfl
theorem awake_mrg : mrgL 7 (B []) (B []) (B []) [B [97]] [B [98]] [B [99]] = region 7 (B []) (B []) (B []) [B [98]] [B [97]] [B [99]] ∧ cnt (chk [B [97]] [B [98]] [B [99]]) = 1 := by
  have hc : chk [B [97]] [B [98]] [B [99]] = [⟨0, 1, 0, 1, 0, 1, 5⟩] := by
    unfold chk
    rw [uni_abc]
    have n0 : TokI.nums [B [97], B [98], B [99]] [B [97]] = [0] := by simp [TokI.nums, num, lt, toList_L, L_B, Op.bytesLess]
    have n1 : TokI.nums [B [97], B [98], B [99]] [B [98]] = [1] := by simp [TokI.nums, num, lt, toList_L, L_B, Op.bytesLess]
    have n2 : TokI.nums [B [97], B [98], B [99]] [B [99]] = [2] := by simp [TokI.nums, num, lt, toList_L, L_B, Op.bytesLess]
    rw [n0, n1, n2]
    have p1 : Lcs.prs [0] [1] 0 0 = [] := by simp [Lcs.prs]
    have p2 : Lcs.prs [0] [2] 0 0 = [] := by simp [Lcs.prs]
    unfold chunks tri
    rw [p1, p2]
    rfl
  unfold mrgL
  rw [hc]
  exact ⟨rfl, rfl⟩
theorem awake_ev : Ev (fun k => emendationlaw06_awake.f k) true := by
  have hM := Merge_ev 7 (B []) (B []) (B []) (by decide) (by decide) (by decide) [B [97]] [B [98]] [B [99]] (by simp)
  rw [awake_mrg.1, awake_mrg.2] at hM
  have hS := Size_ev 0 [[B [61, 61, 61, 61, 61, 61, 61, 120]]] (by simp) (by simp) (by simp [B_size])
  have hz : sz 0 [[B [61, 61, 61, 61, 61, 61, 61, 120]]].flatten = 8 := by decide +kernel
  rw [hz] at hS
  refine Ev.bind hM ?_
  refine Ev.congr (fun k => ?_) (Ev.bind hS (f := fun _ t => some (t == 8)) (r := true) ⟨0, fun _ _ => rfl⟩)
  have hl : ((region 7 (B []) (B []) (B []) [B [98]] [B [97]] [B [99]]).length : Int) = 7 := by rw [region_length]; rfl
  have hr : (rdOf ByteArray.empty (region 7 (B []) (B []) (B []) [B [98]] [B [97]] [B [99]]) 0).toList = ([60, 60, 60, 60, 60, 60, 60] : List UInt8) := by
    have e : rdOf ByteArray.empty (region 7 (B []) (B []) (B []) [B [98]] [B [97]] [B [99]]) 0 = B (mkr 60 7 (B [])) := rfl
    rw [e, toList_L, L_B]
    decide +kernel
  show (if ((1 : Nat) : Int) = 1 then _ else _) = _
  rw [if_pos (by decide)]
  show (if ((region 7 (B []) (B []) (B []) [B [98]] [B [97]] [B [99]]).length : Int) = 7 then _ else _) = _
  rw [if_pos hl]
  show (if 0 < ((region 7 (B []) (B []) (B []) [B [98]] [B [97]] [B [99]]).length : Int) then _ else _) = _
  rw [hl, if_pos (by decide)]
  show (if (rdOf ByteArray.empty (region 7 (B []) (B []) (B []) [B [98]] [B [97]] [B [99]]) 0).toList = ([60, 60, 60, 60, 60, 60, 60] : List UInt8) then _ else _) = _
  rw [if_pos hr]
  rfl
end Go.Proofs.Ytlkgdfeeepiidaa.Mk
