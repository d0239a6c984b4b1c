/- Names without line ends, in plain words: that it is told at all. -/
import Derived.Test.YtlkgdfeeepiidaaMkW
import Derived.Test.YtlkgdfeeepiidaaF44
namespace Go.Proofs.Ytlkgdfeeepiidaa.Mk
open Go.RowKit Go.Proofs.Ytlkgdfeeepiidaa.All Go.Proofs.Ytlkgdfeeepiidaa.TokI Go.Proofs.Ytlkgdfeeepiidaa.Tok Go.Proofs.YtlkgdfeeepiidaaW.PrintWords Go.Proofs.YtlkgdfeeepiidaaW.PrintLast Go.Proofs.YtlkgdfeeepiidaaW.PrintMore
theorem split_l0 (s : ByteArray) (hs : s.size ≤ 100000000) (d : Nat) : ∀ (i : Nat) (ls : List ByteArray) (cur : ByteArray) (f : Bool), i + d = s.size → ls.length ≤ i → cur.size ≤ i → ∃ r, Ev (fun k => emendationref02_Split.l0 k s ls cur f (i : Int)) r := by
  induction d using Nat.strongRecOn with
  | _ d ih =>
  intro i ls cur f hi hl hc
  by_cases hlt : (i : Int) < (s.size : Int)
  · have z2 : (0 : Int) ≤ (i : Int) := by omega
    have w := oneI i (by omega)
    have w2 := oneI (i + 1) (by omega)
    have hb : ls.length < 8796093022208 := by clear w w2; omega
    have hl1 : (ls ++ [cur]).length ≤ i + 1 := by rw [List.length_append, List.length_singleton]; clear w w2; omega
    -- one line more, from the next place on
    obtain ⟨r1, e1⟩ := ih (d - 1) (by clear w w2; omega) (i + 1) (ls ++ [cur]) (⟨#[]⟩ : ByteArray) false (by clear w w2; omega) hl1 (Nat.zero_le _)
    have hsz : (strOfNums [bt s (i : Int)]).size = 1 := rfl
    obtain ⟨r2, e2⟩ := ih (d - 1) (by clear w w2; omega) (i + 1) ls (cur ++ strOfNums [bt s (i : Int)]) true (by clear w w2; omega) (by clear w w2; omega) (by rw [ByteArray.size_append, hsz]; clear w w2; omega)
    have t1 : ∃ r, Ev (fun k => emendationref02_Split.j1 k s ls cur (i : Int) true) r := by
      by_cases h13 : bt s (i : Int) = 13
      · by_cases hn : ((i + 1 : Nat) : Int) < (s.size : Int)
        · have z3 : (0 : Int) ≤ ((i + 1 : Nat) : Int) := by clear w w2; omega
          by_cases h10 : bt s ((i + 1 : Nat) : Int) = 10
          · obtain ⟨r3, e3⟩ := ih (d - 2) (by clear w w2; omega) (i + 2) (ls ++ [cur]) (⟨#[]⟩ : ByteArray) false (by clear w w2; omega) (by clear w w2; omega) (Nat.zero_le _)
            refine ⟨r3, Ev.step (fun k => ?_) e3⟩
            rw [emendationref02_Split.j1, if_pos rfl, if_pos z2, if_pos hlt, if_pos h13, w, if_pos hn, if_pos z3, if_pos h10, if_pos hb, w2]
          · refine ⟨r1, Ev.step (fun k => ?_) e1⟩
            rw [emendationref02_Split.j1, if_pos rfl, if_pos z2, if_pos hlt, if_pos h13, w, if_pos hn, if_pos z3, if_neg h10, if_pos hb]
        · refine ⟨r1, Ev.step (fun k => ?_) e1⟩
          rw [emendationref02_Split.j1, if_pos rfl, if_pos z2, if_pos hlt, if_pos h13, w, if_neg hn, if_pos hb]
      · refine ⟨r1, Ev.step (fun k => ?_) e1⟩
        rw [emendationref02_Split.j1, if_pos rfl, if_pos z2, if_pos hlt, if_neg h13, if_pos hb, w]
    have t2 : Ev (fun k => emendationref02_Split.j1 k s ls cur (i : Int) false) r2 := by
      refine Ev.step (fun k => ?_) e2
      rw [emendationref02_Split.j1, if_neg Bool.false_ne_true, if_pos z2, if_pos hlt, Option.bind_some, hsz, if_pos (by clear w w2; omega), w]
    have t3 : ∀ b, ∃ r, Ev (fun k => emendationref02_Split.j1 k s ls cur (i : Int) b) r := fun b => by
      cases b with
      | true => exact t1
      | false => exact ⟨r2, t2⟩
    by_cases h10 : bt s (i : Int) = 10
    · obtain ⟨r, e⟩ := t3 true
      refine ⟨r, Ev.step (fun k => ?_) e⟩
      rw [emendationref02_Split.l0, if_pos hlt, if_pos z2, if_pos h10]
    · obtain ⟨r, e⟩ := t3 (bt s (i : Int) == 13)
      refine ⟨r, Ev.step (fun k => ?_) e⟩
      rw [emendationref02_Split.l0, if_pos hlt, if_pos z2, if_neg h10]
  · cases f with
    | true =>
      refine ⟨(ls ++ [cur], !true), 1, fun k hk => ?_⟩
      obtain ⟨q, rfl⟩ : ∃ q, k = q + 1 := ⟨k - 1, (Nat.sub_add_cancel hk).symm⟩
      show emendationref02_Split.l0 (q + 1) _ _ _ _ _ = _
      rw [emendationref02_Split.l0, if_neg hlt, if_pos rfl, if_pos (by omega)]
    | false =>
      refine ⟨(ls, !false), 1, fun k hk => ?_⟩
      obtain ⟨q, rfl⟩ : ∃ q, k = q + 1 := ⟨k - 1, (Nat.sub_add_cancel hk).symm⟩
      show emendationref02_Split.l0 (q + 1) _ _ _ _ _ = _
      rw [emendationref02_Split.l0, if_neg hlt, if_neg Bool.false_ne_true]
theorem plain_ev (s : ByteArray) (hs : s.size ≤ 100000000) : ∃ b, Ev (fun k => emendationlaw06_plain.f k s) b := by
  obtain ⟨r, e⟩ := split_l0 s hs s.size 0 [] (⟨#[]⟩ : ByteArray) false (Nat.zero_add _) (Nat.zero_le _) (Nat.zero_le _)
  refine ⟨if s.toList = ([] : List UInt8) then true else if (r.1.length : Int) = 1 then !r.2 else false, Ev.bind (a := r) e ⟨0, fun k _ => ?_⟩⟩
  show (if s.toList = ([] : List UInt8) then some true else if (r.1.length : Int) = 1 then some (!r.2) else some false) = _
  split
  · rfl
  · split <;> rfl
theorem named_is (x y z : ByteArray) : emendationlaw06_named.f x y z = some (decide ((wrap64 ((wrap64 ((x.size : Int) + (y.size : Int))) + (z.size : Int))) < 1000)) := rfl
theorem named_small (x y z : ByteArray) (hx : x.size ≤ 140737488351232) (hy : y.size ≤ 140737488351232) (hz : z.size ≤ 140737488351232) (h : (wrap64 ((wrap64 ((x.size : Int) + (y.size : Int))) + (z.size : Int))) < 1000) : x.size ≤ 1000 ∧ y.size ≤ 1000 ∧ z.size ≤ 1000 := by
  rw [wrapI (x := (x.size : Int) + (y.size : Int)) (by omega) (by omega), wrapI (by omega) (by omega)] at h
  omega
end Go.Proofs.Ytlkgdfeeepiidaa.Mk
