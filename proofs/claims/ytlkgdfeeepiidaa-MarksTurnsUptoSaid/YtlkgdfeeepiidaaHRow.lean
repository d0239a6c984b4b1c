/- Rows of texts and of numbers that came in, as the printed contracts read them. -/
import Derived.Test.YtlkgdfeeepiidaaWWords
import Derived.Test.YtlkgdfeeepiidaaWFoot
import Derived.Test.YtlkgdfeeepiidaaWShare
namespace Go.Proofs.YtlkgdfeeepiidaaW.PrintWords
open Go.RowKit
namespace Kd
theorem heap_int (k : IntKind) : Heap (Kd.int k) := ⟨fun _ h => h⟩
theorem heap_string : Heap Kd.string := ⟨fun _ h => h⟩
/-- What came in, a row of the call's own. -/
theorem C_F {α : Type} {d : Kd α} {w : World} {A : Option Addr} {n : Nat} {xs : List α} (hd : Heap d) (h : d.C w A n xs) : F d w (fun k => k < w.heap.size) A n xs := fun _ hW => hd.C (fun k hlt => hW k hlt hlt) h
end Kd
end Go.Proofs.YtlkgdfeeepiidaaW.PrintWords
namespace Go.Proofs.Ytlkgdfeeepiidaa.HRow
open Go.RowKit Go.Proofs.YtlkgdfeeepiidaaW.PrintWords
theorem nil_row (w : World) : 0 = ([] : List ByteArray).length ∧ Kd.C Kd.string w none ([] : List ByteArray).length [] ∧ ([] : List ByteArray).length ≤ 0 ∧ (∀ s ∈ ([] : List ByteArray), s.size ≤ maxLen) ∧ ([] : List ByteArray).length ≤ maxLen :=
  ⟨rfl, Kd.C_nil _ _, Nat.le_refl _, by simp, by simp⟩
theorem strs_row {w : World} {x : Addr} {len cap : Nat} {ss : List ByteArray} (hl : len ≤ cap) (hm : cap ≤ maxLen) (hz : ss.length = cap)
    (hcell : ∀ i, i < ss.length → w.cell? (x.add i) = some (.string (ss.getD i ByteArray.empty))) (hs : ∀ s ∈ ss, s.size ≤ maxLen) :
    len = (ss.take len).length ∧ Kd.C Kd.string w (some x) (ss.take len).length (ss.take len) ∧ (ss.take len).length ≤ cap ∧ (∀ s ∈ ss.take len, s.size ≤ maxLen) ∧ (ss.take len).length ≤ maxLen := by
  have hlen : (ss.take len).length = len := by rw [List.length_take]; omega
  refine ⟨hlen.symm, Kd.C_of_reads (enc := Value.string) (d := ByteArray.empty) (h1 := fun _ => rfl) ⟨rfl, by unfold maxLen at hm; omega, fun _ => ⟨x, rfl, fun j hj => ?_⟩⟩, by omega, fun s h => hs s (List.mem_of_mem_take h), by omega⟩
  have := hcell j (by omega)
  rw [this]
  congr 2
  rw [List.getD_eq_getElem?_getD, List.getD_eq_getElem?_getD, List.getElem?_take_of_lt (by omega)]
theorem nil_ints (w : World) : 0 = ([] : List Int).length ∧ Kd.C (Kd.int .i64) w none ([] : List Int).length [] ∧ ([] : List Int).length ≤ 0 ∧ (∀ s ∈ ([] : List Int), (Lit.int .i64 s).wf = true) ∧ ([] : List Int).length ≤ maxLen :=
  ⟨rfl, Kd.C_nil _ _, Nat.le_refl _, by simp, by simp⟩
theorem ints_row {w : World} {x : Addr} {len cap : Nat} {ss : List Int} (hl : len ≤ cap) (hm : cap ≤ maxLen) (hz : ss.length = cap)
    (hcell : ∀ i, i < ss.length → w.cell? (x.add i) = some (.int .i64 (ss.getD i 0))) (hs : ∀ s ∈ ss, (Lit.int .i64 s).wf = true) :
    len = (ss.take len).length ∧ Kd.C (Kd.int .i64) w (some x) (ss.take len).length (ss.take len) ∧ (ss.take len).length ≤ cap ∧ (∀ s ∈ ss.take len, (Lit.int .i64 s).wf = true) ∧ (ss.take len).length ≤ maxLen := by
  have hlen : (ss.take len).length = len := by rw [List.length_take]; omega
  refine ⟨hlen.symm, Kd.C_of_reads (enc := Value.int .i64) (d := (0 : Int)) (h1 := fun _ => rfl) ⟨rfl, by unfold maxLen at hm; omega, fun _ => ⟨x, rfl, fun j hj => ?_⟩⟩, by omega, fun s h => hs s (List.mem_of_mem_take h), by omega⟩
  have := hcell j (by omega)
  rw [this]
  congr 2
  rw [List.getD_eq_getElem?_getD, List.getD_eq_getElem?_getD, List.getElem?_take_of_lt (by omega)]
end Go.Proofs.Ytlkgdfeeepiidaa.HRow
