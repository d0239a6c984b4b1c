/- lcs.Length: it tells the most that two lists have in common. -/
import Derived.Test.YtlkgdfeeepiidaaXLcs1
namespace Go.Proofs.Ytlkgdfeeepiidaa.All
open Go.RowKit Go.Proofs.Ytlkgdfeeepiidaa.Lcs Go.Proofs.Ytlkgdfeeepiidaa.XLcs Go.Proofs.YtlkgdfeeepiidaaW.PrintWords Go.Proofs.YtlkgdfeeepiidaaW.PrintLast Go.Proofs.YtlkgdfeeepiidaaW.PrintMore
set_option linter.unusedVariables false
set_option linter.unusedSimpArgs false

def lcs_Length.f (l0 l1 : List Int) : Option Int := if l0.length ≤ 4000000 ∧ l1.length ≤ 4000000 then some (lcs l0 l1 : Int) else none
theorem lcs_Length.calls (A0 : Option Addr) (c0 : Nat) (l0 : List Int) (A1 : Option Addr) (c1 : Nat) (l1 : List Int) (r : Int) (w : World) (hr0 : Kd.C (Kd.int .i64) w A0 l0.length l0) (hc0 : l0.length ≤ c0) (hr1 : Kd.C (Kd.int .i64) w A1 l1.length l1) (hc1 : l1.length ≤ c1) (h : lcs_Length.f l0 l1 = some r) :
    Calls Try.prog 31 #[.slice A0 l0.length c0, .slice A1 l1.length c1] w fun e w' => e = .returned (.int .i64 r) ∧ Below w.heap.size w w' := by
  unfold lcs_Length.f at h
  split at h
  · rename_i hb
    obtain ⟨hb0, hb1⟩ := hb
    have hN : l0.length * l1.length ≤ 35184372088832 := Nat.le_trans (Nat.mul_le_mul hb0 hb1) (by omega)
    obtain rfl := Option.some.inj h
    have hR := reckon_calls A0 c0 l0 A1 c1 l1 w hr0 hc0 hr1 hc1 hN (by omega) (by omega)
    clear hr0 hr1 h
    go_enter Try.func31, Try.ntmps31
    go_wp2_with (first
      | (go_at_call 66; refine hR.mono ?_; rintro e w1 ⟨rfl, hT, hB⟩; clear hR)
      | (go_at_call 67; refine (at_int _ w.heap.size A0 c0 l0 A1 c1 l1 0 0 0 _ _ _ rfl rfl hN (Nat.zero_le _) (Nat.zero_le _) (Nat.zero_le _) hT).mono ?_; rintro e w2 ⟨rfl, z, rfl⟩))
    go_ret
    exact ⟨rfl, pw_below_drewN hB _⟩
  · cases h
end Go.Proofs.Ytlkgdfeeepiidaa.All
