/- The laws' small functions over chunks: list, Same. -/
import Derived.Test.YtlkgdfeeepiidaaWvM
import Derived.Test.YtlkgdfeeepiidaaF56
import Derived.Test.YtlkgdfeeepiidaaF55
namespace Go.Proofs.Ytlkgdfeeepiidaa.Wv
open Go.RowKit Go.Proofs.Ytlkgdfeeepiidaa.All Go.Proofs.Ytlkgdfeeepiidaa.Lcs Go.Proofs.YtlkgdfeeepiidaaW.PrintWords Go.Proofs.YtlkgdfeeepiidaaW.PrintLast
def C113 (c : Ch) : S113 := ⟨⟨(c.x0 : Int), (c.x1 : Int)⟩, ⟨(c.y0 : Int), (c.y1 : Int)⟩, ⟨(c.z0 : Int), (c.z1 : Int)⟩, c.c⟩
theorem chunks_length (b o t : List Int) : (chunks b o t).length ≤ 2 * b.length + 2 := by
  have h1 := chs_length b o t (tri b o t) 0 0 0 0
  have h2 := trs_length (prs b o 0 0) (prs b t 0 0) b.length 0
  unfold chunks tri at *
  omega
theorem rd_C75 (L : List Ch) (i : Nat) (h : i < L.length) : rd_T75 (L.map C75) (i : Int) = C75 L[i] := by unfold rd_T75; simp [h]
theorem list_ev (L : List Ch) (hL : L.length ≤ 1000000) : Ev (fun k => emendationlaw05_list.f k (L.map C75)) (L.map C113) := by
  have hl : ∀ (d i : Nat), i + d = L.length → Ev (fun k => emendationlaw05_list.l0 k (L.map C75) ((L.take i).map C113) (L.length : Int) (i : Int)) (L.map C113) := by
    intro d
    induction d with
    | zero =>
      intro i hi
      refine ⟨1, fun k hk => ?_⟩
      obtain ⟨q, rfl⟩ : ∃ q, k = q + 1 := ⟨k - 1, (Nat.sub_add_cancel hk).symm⟩
      show emendationlaw05_list.l0 (q + 1) _ _ _ _ = _
      have z : ¬ (i : Int) < (L.length : Int) := by omega
      rw [emendationlaw05_list.l0, if_neg z, List.take_of_length_le (by omega)]
    | succ d ih =>
      intro i hi
      have z0 : i < L.length := by omega
      have z1 : (i : Int) < (L.length : Int) := by omega
      have z2 : (0 : Int) ≤ (i : Int) := by omega
      have z3 : (i : Int) < ((L.map C75).length : Int) := by rw [List.length_map]; exact z1
      have z4 : ((L.take i).map C113).length < 2513169434916 := by rw [List.length_map, List.length_take]; omega
      have w := wone i (by omega)
      have g := rd_C75 L i z0
      have e : (L.take (i + 1)).map C113 = (L.take i).map C113 ++ [C113 L[i]] := by rw [List.take_succ_eq_append_getElem z0, List.map_append]; rfl
      refine Ev.step (fun k => ?_) (ih (i + 1) (by clear w g e; omega))
      rw [emendationlaw05_list.l0, if_pos z1, if_pos z2, if_pos z3, if_pos z4, g, w, e]
      rfl
  have h := hl L.length 0 (by omega)
  refine Ev.congr (fun k => ?_) h
  rw [emendationlaw05_list.f, List.length_map]
  rfl
theorem Same5_ev (l : List S113) (hl : l.length ≤ 1000000) : Ev (fun k => emendationref05_Same.f k l l) true := by
  have h0 : ∀ (d i : Nat), i + d = l.length → Ev (fun k => emendationref05_Same.l0 k l l (l.length : Int) (i : Int)) true := by
    intro d
    induction d with
    | zero =>
      intro i hi
      refine ⟨1, fun k hk => ?_⟩
      obtain ⟨q, rfl⟩ : ∃ q, k = q + 1 := ⟨k - 1, (Nat.sub_add_cancel hk).symm⟩
      show emendationref05_Same.l0 (q + 1) _ _ _ _ = _
      have z : ¬ (i : Int) < (l.length : Int) := by omega
      rw [emendationref05_Same.l0, if_neg z]
    | succ d ih =>
      intro i hi
      have z1 : (i : Int) < (l.length : Int) := by omega
      have z2 : (0 : Int) ≤ (i : Int) := by omega
      have w := wone i (by omega)
      refine Ev.step (fun k => ?_) (ih (i + 1) (by clear w; omega))
      rw [emendationref05_Same.l0, if_pos z1, if_pos z2, if_pos z1, if_pos z1, w]
      simp
  refine Ev.congr (fun k => ?_) (h0 l.length 0 (by omega))
  rw [emendationref05_Same.f, if_pos rfl]
  rfl
end Go.Proofs.Ytlkgdfeeepiidaa.Wv
