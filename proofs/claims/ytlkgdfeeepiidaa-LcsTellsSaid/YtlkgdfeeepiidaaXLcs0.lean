/- lcs.table's 'at' and 'reckon': what they do to the memory. -/
import Derived.Test.YtlkgdfeeepiidaaF0
import Derived.IntWalk
namespace Go.Proofs.Ytlkgdfeeepiidaa.XLcs
open Go.RowKit Go.Proofs.Ytlkgdfeeepiidaa.All Go.Proofs.YtlkgdfeeepiidaaW.PrintWords Go.Proofs.YtlkgdfeeepiidaaW.PrintLast Go.Proofs.YtlkgdfeeepiidaaW.PrintMore
set_option linter.unusedVariables false
set_option linter.unusedSimpArgs false

/-- What 'at' tells: below either end of the lists nothing. -/
theorem at_left (g n m N : Nat) (A0 A1 A2 : Option Addr) (c0 c1 c2 : Nat) (i k : Int) (w : World)
    (h0 : w.cell? ⟨g, 0, none⟩ = some (.slice A0 n c0)) (hi : (n : Int) ≤ i) :
    Calls Try.prog 67 #[.pointer (some ⟨g, 0, none⟩), .int .i64 i, .int .i64 k] w fun e w' => e = .returned (.int .i64 0) ∧ ∃ q, w' = w.drewN q := by
  have hb : decide ((n : Int) ≤ i) = true := decide_eq_true hi
  go_enter Try.func67, Try.ntmps67
  go_wp2
  go_ret
  exact ⟨rfl, 0, rfl⟩
theorem at_right (g n m N : Nat) (A0 A1 A2 : Option Addr) (c0 c1 c2 : Nat) (i k : Int) (w : World)
    (h0 : w.cell? ⟨g, 0, none⟩ = some (.slice A0 n c0)) (h1 : w.cell? ⟨g, 1, none⟩ = some (.slice A1 m c1)) (hi : i < (n : Int)) (hk : (m : Int) ≤ k) :
    Calls Try.prog 67 #[.pointer (some ⟨g, 0, none⟩), .int .i64 i, .int .i64 k] w fun e w' => e = .returned (.int .i64 0) ∧ ∃ q, w' = w.drewN q := by
  have hb : decide ((n : Int) ≤ i) = false := decide_eq_false (by omega)
  have hb2 : decide ((m : Int) ≤ k) = true := decide_eq_true hk
  go_enter Try.func67, Try.ntmps67
  go_wp2
  go_ret
  exact ⟨rfl, 0, rfl⟩
theorem at_in (g n m N : Nat) (A0 A1 : Option Addr) (c0 c1 c2 h : Nat) (i k j v : Int) (w : World)
    (h0 : w.cell? ⟨g, 0, none⟩ = some (.slice A0 n c0)) (h1 : w.cell? ⟨g, 1, none⟩ = some (.slice A1 m c1)) (h2 : w.cell? ⟨g, 2, none⟩ = some (.slice (some ⟨h, 0, none⟩) N c2))
    (hi : i < (n : Int)) (hk : k < (m : Int)) (hj : IntKind.i64.wrap (wrap64 (i * (m : Int)) + k) = j) (hj0 : 0 ≤ j) (hjN : j < (N : Int)) (hv : w.cell? ⟨h, j.toNat, none⟩ = some (.int .i64 v)) :
    Calls Try.prog 67 #[.pointer (some ⟨g, 0, none⟩), .int .i64 i, .int .i64 k] w fun e w' => e = .returned (.int .i64 v) ∧ ∃ q, w' = w.drewN q := by
  have hb : decide ((n : Int) ≤ i) = false := decide_eq_false (by omega)
  have hb2 : decide ((m : Int) ≤ k) = false := decide_eq_false (by omega)
  have p1 := eq_true hj0
  have p2 := eq_true hjN
  clear hi hk hj0 hjN
  go_enter Try.func67, Try.ntmps67
  go_wp2
  go_quiet (fail)
  go_wp2
  go_ret
  exact ⟨rfl, _, rfl⟩
end Go.Proofs.Ytlkgdfeeepiidaa.XLcs
