/- token.Join: the bytes of all, one behind the other. -/
import Derived.Test.YtlkgdfeeepiidaaF0
import Derived.Test.YtlkgdfeeepiidaaShJoin
namespace Go.Proofs.Ytlkgdfeeepiidaa.All
open Go.RowKit Go.Proofs.YtlkgdfeeepiidaaW.PrintWords Go.Proofs.YtlkgdfeeepiidaaW.PrintLast Go.Proofs.YtlkgdfeeepiidaaW.PrintMore
set_option linter.unusedVariables false
set_option linter.unusedSimpArgs false

def joined (l : List ByteArray) : List UInt8 := (l.map (·.data.toList)).flatten
theorem lib_join (l : List ByteArray) : Go.Lib.join (l.map (·.data.toList)) [] = joined l := by
  unfold Go.Lib.join joined
  generalize l.map (·.data.toList) = m
  induction m with
  | nil => rfl
  | cons x t ih =>
    cases t with
    | nil => simp [List.intercalate]
    | cons y u => simp [List.intercalate] at ih ⊢; simpa using ih
/-- An address that is read bears no spot; the cells behind it. -/
theorem C_plain {w : World} {A : Option Addr} {xs : List ByteArray} (h : Kd.C Kd.string w A xs.length xs) (h0 : 0 < xs.length) :
    ∃ bk o, A = some ⟨bk, o, none⟩ ∧ bk < w.heap.size ∧ ∀ (j : Nat) x, xs[j]? = some x → w.cell? ⟨bk, o + j, none⟩ = some (.string x) := by
  obtain ⟨ad, e, hc⟩ := Kd.at_string h 0 (by omega) (by omega)
  subst e
  obtain ⟨bk, o, sp⟩ := ad
  have hsp : sp = none := by simpa [Addr.add] using World.cell?_spot hc
  subst hsp
  refine ⟨bk, o, rfl, ?_, fun j x hx => ?_⟩
  · have := World.block_lt_of_cell? w _ hc
    simpa [Addr.add] using this
  · have hj : j < xs.length := (List.getElem?_eq_some_iff.1 hx).1
    obtain ⟨ad, e, hc⟩ := Kd.at_string h (j : Int) (by omega) (by omega)
    cases e
    rw [Int.toNat_natCast] at hc
    have hr : rdOf ByteArray.empty xs (j : Int) = x := by
      unfold rdOf; rw [Int.toNat_natCast, List.getD_eq_getElem?_getD, hx]; rfl
    rw [hr] at hc
    rw [← hc]
    unfold Addr.add
    split
    · rename_i h0; subst h0; rfl
    · rfl
def token_Join.f (l0 : List ByteArray) : Option ByteArray := if l0.length ≤ 140737488355328 ∧ (joined l0).length ≤ 140737488355328 then some ⟨(joined l0).toArray⟩ else none
theorem token_Join.calls (A0 : Option Addr) (c0 : Nat) (l0 : List ByteArray) (r : ByteArray) (w : World) (hr0 : Kd.C Kd.string w A0 l0.length l0) (hc0 : l0.length ≤ c0) (h : token_Join.f l0 = some r) :
    Calls Try.prog 48 #[.slice A0 l0.length c0] w fun e w' => e = .returned (.string r) ∧ Below w.heap.size w w' := by
  unfold token_Join.f at h
  split at h
  · rename_i hb
    obtain ⟨hb0, hb1⟩ := hb
    obtain rfl := Option.some.inj h
    clear h
    have hJ : ∀ W, Kd.C Kd.string W A0 l0.length l0 → Calls Try.prog 74 #[.slice A0 l0.length c0, .string ⟨#[]⟩] W fun e w' => e = .returned (.string ⟨(joined l0).toArray⟩) ∧ Below W.heap.size W w' := by
      intro W hW
      by_cases h0 : 0 < l0.length
      · obtain ⟨bk, o, rfl, hbk, hcells⟩ := C_plain hW h0
        have hj := lib_join l0
        refine (Sh.strings_Join bk o c0 l0 ⟨#[]⟩ W hcells hbk (by omega) hc0 (by rw [show (⟨#[]⟩ : ByteArray).data.toList = [] from rfl, hj]; exact hb1)).mono ?_
        rintro e w' ⟨rfl, hB⟩
        exact ⟨by rw [show (⟨#[]⟩ : ByteArray).data.toList = [] from rfl, hj], hB⟩
      · have hl : l0 = [] := List.length_eq_zero_iff.1 (by omega)
        subst hl
        refine (Sh.strings_Join_none A0 c0 ⟨#[]⟩ W).mono ?_
        rintro e w' ⟨rfl, rfl⟩
        exact ⟨rfl, Below.refl _ _⟩
    go_enter Try.func48, Try.ntmps48
    go_wp2_with (go_at_call 74; refine (hJ _ (by first | exact hr0 | exact Kd.C_drewN hr0 _ | exact Kd.C_drew hr0)).mono ?_; rintro e w1 ⟨rfl, hB⟩)
    go_ret
    exact ⟨rfl, hB⟩
  · cases h
end Go.Proofs.Ytlkgdfeeepiidaa.All
