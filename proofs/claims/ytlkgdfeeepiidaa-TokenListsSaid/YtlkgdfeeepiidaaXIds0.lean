/- token.Ids: slices.Sort and slices.Compact of texts that the call made itself, as rows. -/
import Derived.Test.YtlkgdfeeepiidaaF0
import Derived.Test.YtlkgdfeeepiidaaShSort
namespace Go.Proofs.Ytlkgdfeeepiidaa.XIds
open Go.RowKit Go.Proofs.Ytlkgdfeeepiidaa Go.Proofs.Ytlkgdfeeepiidaa.All Go.Proofs.YtlkgdfeeepiidaaW.PrintWords Go.Proofs.YtlkgdfeeepiidaaW.PrintLast Go.Proofs.YtlkgdfeeepiidaaW.PrintMore
set_option linter.unusedVariables false
set_option linter.unusedSimpArgs false
/-- A text's bytes. -/
def toL (s : ByteArray) : List UInt8 := s.data.toList
def ofL (l : List UInt8) : ByteArray := ⟨l.toArray⟩
theorem ofL_toL (s : ByteArray) : ofL (toL s) = s := rfl
theorem toL_ofL (l : List UInt8) : toL (ofL l) = l := rfl
theorem map_ofL (l : List ByteArray) : (l.map toL).map ofL = l := by rw [List.map_map]; exact List.map_id l
/-- In order. -/
def sortB (l : List ByteArray) : List ByteArray := ((l.map toL).mergeSort fun x y => decide (x ≤ y)).map ofL
/-- Each text once, where the same ones stand together. -/
def compB (l : List ByteArray) : List ByteArray := (Lib.compact (l.map toL)).map ofL
theorem sortB_length (l : List ByteArray) : (sortB l).length = l.length := by simp [sortB]
theorem own_put {w W : World} {base g n cap m : Nat} {xs : List Value} (h : w.ownsRow base 9 1 (.slice (some ⟨g, 0, none⟩) n cap) n xs) (d : Array (List UInt8)) (hd : d.size = n) (hm : m ≤ n)
    (hW : W.heap[g]? = (w.heap[g]?).map (Go.Sort.onCells (Go.Sort.putCells Go.Proofs.encStr 0 d))) : W.ownsRow base 9 1 (.slice (some ⟨g, 0, none⟩) m cap) m (encs Value.string ((d.toList.take m).map ofL)) := by
  obtain ⟨hl, h⟩ := h
  rcases h with ⟨h, _⟩ | ⟨g', cap', cur, he, hb, hc, h1, h2, h3, h4⟩
  · cases h
  · injection he with he1 he2 he3
    injection he1 with he1
    injection he1 with he1
    subst he1; subst he3
    rw [hc, Option.map_some] at hW
    have hlen : (encs Value.string ((d.toList.take m).map ofL)).length = m * 1 := by rw [encs_length]; simp; omega
    refine ⟨hlen, .inr ⟨g, cap, Go.Sort.putCells Go.Proofs.encStr 0 d cur, rfl, hb, hW, by omega, h2, by simp [Go.Sort.putCells]; omega, ?_⟩⟩
    apply List.ext_getElem
    · rw [hlen]; simp [Go.Sort.putCells]; omega
    · intro i hi1 hi2
      rw [hlen] at hi2
      have hid : i < d.size := by omega
      simp only [Go.Sort.putCells, List.getElem_take, Array.getElem_toList, Array.getElem_mapIdx, encs, List.getElem_map]
      rw [if_pos ⟨Nat.zero_le _, by omega⟩, Nat.sub_zero, getElem!_pos d i hid]
      rfl
theorem holds_of {w : World} {base g n cap : Nat} {ok : Nat → Prop} {xs : List ByteArray} (h : Kd.R Kd.string 9 w base ok (.slice (some ⟨g, 0, none⟩) n cap) xs) : Go.Sort.Holds Go.Proofs.encStr w g 0 (xs.map toL).toArray := by
  intro j hj
  have hn := (Kd.R_reads' h).1
  simp at hj
  have hc := Kd.R_celln ByteArray.empty h (j : Int) (by omega) (by omega)
  rw [Int.toNat_natCast] at hc
  have e : (⟨g, 0 + j, none⟩ : Addr) = ⟨g, j, none⟩ := by rw [Nat.zero_add]
  rw [e]
  refine ⟨hc.1.trans ?_, hc.2⟩
  have : rdOf ByteArray.empty xs (j : Int) = xs[j] := by unfold rdOf; simp [hj]
  rw [this, getElem!_pos _ j (by simpa using hj)]
  simp only [List.getElem_toArray, List.getElem_map]
  rfl
theorem grown_put {w : World} (g : Nat) (q : Nat) (d : Array (List UInt8)) (os : Array Obj) : w.grownBy (Go.Sort.grow (Go.Sort.putRow Go.Proofs.encStr (Go.Sort.ahead w q) g 0 d) os) (some g) := by
  refine ⟨rfl, rfl, rfl, ?_, ?_⟩
  · simp [Go.Sort.grow, Go.Sort.putRow, Go.Sort.mapBlock, Go.Sort.ahead]
  · intro k hk hne
    have hkg : g ≠ k := fun h => hne (by rw [h])
    simp only [Go.Sort.grow, Go.Sort.putRow, Go.Sort.mapBlock, Go.Sort.ahead]
    rw [Array.getElem?_append_left (by simpa using hk), Array.getElem?_modify, if_neg hkg]
theorem block_put {w : World} (g : Nat) (q : Nat) (d : Array (List UInt8)) (os : Array Obj) (hg : g < w.heap.size) : (Go.Sort.grow (Go.Sort.putRow Go.Proofs.encStr (Go.Sort.ahead w q) g 0 d) os).heap[g]? = (w.heap[g]?).map (Go.Sort.onCells (Go.Sort.putCells Go.Proofs.encStr 0 d)) := by
  simp only [Go.Sort.grow, Go.Sort.putRow, Go.Sort.mapBlock, Go.Sort.ahead]
  rw [Array.getElem?_append_left (by simpa using hg), Array.getElem?_modify, if_pos rfl]
theorem grow_none (w : World) : Go.Sort.grow w #[] = w := by unfold Go.Sort.grow; simp
theorem sort_row (A : Option Addr) (c : Nat) (xs : List ByteArray) (w0 w : World) (base : Nat) (ok : Nat → Prop) (HO : Kd.R Kd.string 9 w base ok (.slice A xs.length c) xs) (HB : Below base w0 w) (hl : xs.length < 4611686018427387904) :
    Calls Try.prog 86 #[.slice A xs.length c] w fun e w' => e = .returned (.tuple #[]) ∧ Kd.R Kd.string 9 w' base ok (.slice A xs.length c) (sortB xs) ∧ Below base w0 w' := by
  by_cases h0 : 0 < xs.length
  · obtain ⟨g, cap, he, hb, hg, _⟩ := Kd.R_form HO h0
    injection he with he1 he2 he3
    subst he1; subst he3
    have hs := Sh.slices_Sort_string g 0 c (xs.map toL) w (holds_of HO) hg (by rw [List.length_map]; exact hl)
    rw [List.length_map] at hs
    refine hs.mono ?_
    rintro e w' ⟨rfl, n, os, rfl⟩
    have hown := Kd.own_of_R HO
    have hp := own_put hown ((xs.map toL).mergeSort fun x y => decide (x ≤ y)).toArray (by simp) (Nat.le_refl _) (block_put g n _ os hg)
    rw [List.take_of_length_le (by simp)] at hp
    refine ⟨rfl, ?_, HB.grown (grown_put g n _ os) (Nat.le_trans hb (Nat.le_of_lt hg)) (fun k hk => by injection hk with hk; omega)⟩
    refine Kd.R_of_own ?_ HO.1
    rw [sortB_length]
    exact hp
  · have hx : xs = [] := List.length_eq_zero_iff.1 (by omega)
    subst hx
    refine (Sh.slices_Sort_string_none A c w).mono ?_
    rintro e w' ⟨rfl, rfl⟩
    refine ⟨rfl, ?_, HB⟩
    have : sortB [] = [] := by simp [sortB]
    rw [this]
    exact HO
theorem compact_le (zs : List (List UInt8)) : (Lib.compact zs).length ≤ zs.length := by
  unfold Lib.compact Lib.compactUpTo
  rw [List.length_map]
  have := List.length_filter_le (Lib.keeps zs.toArray) (List.range zs.length)
  simpa using this
theorem compact_row (A : Option Addr) (c : Nat) (xs : List ByteArray) (n : Nat) (hn : n = xs.length) (w0 w : World) (base : Nat) (ok : Nat → Prop) (HO : Kd.R Kd.string 9 w base ok (.slice A n c) xs) (HB : Below base w0 w) (hl : xs.length < 4611686018427387904) :
    Calls Try.prog 87 #[.slice A n c] w fun e w' => ∃ v : Value, e = .returned v ∧ Kd.R Kd.string 9 w' base ok v (compB xs) ∧ Below base w0 w' := by
  subst hn
  by_cases h0 : 0 < xs.length
  · obtain ⟨g, cap, he, hb, hg, _⟩ := Kd.R_form HO h0
    injection he with he1 he2 he3
    subst he1; subst he3
    have hcap := (Kd.R_reads' HO).2.1
    have hs := Sh.slices_Compact_string g 0 c (xs.map toL) w (holds_of HO) (by rw [List.length_map]; omega) (by rw [List.length_map]; exact hcap)
    rw [List.length_map] at hs
    refine hs.mono ?_
    rintro e w' ⟨rfl, q, rfl⟩
    have hle := compact_le (xs.map toL)
    rw [List.length_map] at hle
    have hown := Kd.own_of_R HO
    have hbl := block_put (w := w) g q ((Lib.compact (xs.map toL) ++ List.replicate (xs.length - (Lib.compact (xs.map toL)).length) []).toArray) #[] hg
    have hgr := grown_put (w := w) g q ((Lib.compact (xs.map toL) ++ List.replicate (xs.length - (Lib.compact (xs.map toL)).length) []).toArray) #[]
    rw [grow_none] at hbl hgr
    have hp := own_put hown _ (by simp; omega) hle hbl
    have e1 : ((Lib.compact (xs.map toL) ++ List.replicate (xs.length - (Lib.compact (xs.map toL)).length) []).toArray.toList.take (Lib.compact (xs.map toL)).length).map ofL = compB xs := by
      show ((Lib.compact (xs.map toL) ++ List.replicate _ []).take _).map ofL = _
      rw [List.take_left']
      · rfl
      · rfl
    rw [e1] at hp
    refine ⟨_, rfl, ?_, HB.grown hgr (Nat.le_trans hb (Nat.le_of_lt hg)) (fun k hk => by injection hk with hk; omega)⟩
    refine Kd.R_of_own ?_ HO.1
    have e2 : (compB xs).length = (Lib.compact (xs.map toL)).length := by unfold compB; rw [List.length_map]
    rw [e2]
    exact hp
  · have hx : xs = [] := List.length_eq_zero_iff.1 (by omega)
    subst hx
    refine (Sh.slices_Compact_string_empty A c w).mono ?_
    rintro e w' ⟨rfl, rfl⟩
    refine ⟨_, rfl, ?_, HB⟩
    have : compB [] = [] := by simp [compB, Lib.compact, Lib.compactUpTo]
    rw [this]
    exact HO
end Go.Proofs.Ytlkgdfeeepiidaa.XIds
