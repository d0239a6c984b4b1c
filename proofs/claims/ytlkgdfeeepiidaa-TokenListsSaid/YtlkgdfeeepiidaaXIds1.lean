/- token.Ids: slices.Grow of nothing, slices.Concat of lists of texts. -/
import Derived.Test.YtlkgdfeeepiidaaXIds0
namespace Go.Proofs.Ytlkgdfeeepiidaa.XIds
open Go.RowKit Go.Proofs.Ytlkgdfeeepiidaa Go.Proofs.Ytlkgdfeeepiidaa.All Go.Proofs.YtlkgdfeeepiidaaW.PrintWords Go.Proofs.YtlkgdfeeepiidaaW.PrintLast Go.Proofs.YtlkgdfeeepiidaaW.PrintMore
set_option linter.unusedVariables false
set_option linter.unusedSimpArgs false
theorem grow_nil (n : Nat) (hn : n ≤ 1000000) (w : World) :
    Calls Try.prog 93 #[.slice none 0 0, .int .i64 (n : Int)] w fun e w' => ∃ v : Value, e = .returned v ∧ Kd.R Kd.string 9 w' w.heap.size (fun _ => True) v [] ∧ Below w.heap.size w w' := by
  by_cases h0 : n = 0
  · subst h0
    go_enter Try.func93, Try.ntmps93
    go_wp2
    go_ret
    exact ⟨_, rfl, Kd.R_nil _ _ _ _ _, Below.refl _ _⟩
  · have hpos : decide ((0 : Int) < (n : Int)) = true := decide_eq_true (by omega)
    have hposN : decide (0 < n) = true := decide_eq_true (by omega)
    have hneg : decide ((n : Int) < 0) = false := decide_eq_false (by omega)
    go_enter Try.func93, Try.ntmps93
    go_wp2_with (first | ((with_reducible refine gate_builtin (b := .append) (xs := #[.tmp 20, .tmp 21]) rfl ?_); at_builtin; (refine Kd.R_append_zeros Kd.string (w0 := w) w.heap.size rfl (.tmp 20) (.tmp 21) 24 3 9 (.string ⟨#[]⟩) 16 rfl Try.underlying24 Try.underlying3 info9 rfl (by decide) (by omega) (.slice none 0 0) [] (⟨#[]⟩ : ByteArray) (n : Int) (fun _ => True) rfl rfl rfl (fun _ _ => trivial) (Kd.R_nil _ _ _ _ _) (by omega) (Below.refl _ _) (Nat.le_refl _) (by simp only [List.length_nil]; omega) ?_); (intro v1 w1 ho hb hg hat); (rw [List.nil_append, Int.toNat_natCast] at ho); (have HO := Aside0.mk ho); (have HB := Aside0.mk hb); (have hl1 : 0 < (List.replicate n (⟨#[]⟩ : ByteArray)).length := (by rw [List.length_replicate]; exact Nat.pos_of_ne_zero h0)); (obtain ⟨g, cap, ev, _, _, _⟩ := Kd.R_form ho hl1); (subst ev); (have hcap := (Kd.R_reads' ho).2.1); (rw [List.length_replicate] at hcap); (have hc2 : (0 : Int) ≤ (cap : Int) := (by omega)); (clear ho hb hg hat hl1)))
    go_ret
    refine ⟨_, rfl, ?_, HB.out⟩
    have h := Kd.R_take (m := 0) HO.out (Nat.zero_le _)
    rw [List.take_zero] at h
    exact h
end Go.Proofs.Ytlkgdfeeepiidaa.XIds
namespace Go.Proofs.Ytlkgdfeeepiidaa.All
open Go.RowKit Go.Proofs.Ytlkgdfeeepiidaa Go.Proofs.Ytlkgdfeeepiidaa.XIds Go.Proofs.YtlkgdfeeepiidaaW.PrintWords Go.Proofs.YtlkgdfeeepiidaaW.PrintLast Go.Proofs.YtlkgdfeeepiidaaW.PrintMore
set_option linter.unusedVariables false
set_option linter.unusedSimpArgs false
def slices_Concat_string_string.f (l : List (List ByteArray)) : Option (List ByteArray) := if l.length ≤ 1000000 ∧ l.flatten.length ≤ 1000000 then some l.flatten else none
theorem flat_succ (l : List (List ByteArray)) (i : Nat) (h : i < l.length) : (l.take (i + 1)).flatten = (l.take i).flatten ++ l[i] := by
  rw [List.take_succ_eq_append_getElem h, List.flatten_append]; simp
def lenTo (l : List (List ByteArray)) (i : Nat) : Nat := (l.take i).flatten.length
theorem flat_le (l : List (List ByteArray)) (i : Nat) : (l.take i).flatten.length ≤ l.flatten.length := by
  have h : l.flatten = (l.take i).flatten ++ (l.drop i).flatten := by rw [← List.flatten_append, List.take_append_drop]
  rw [h, List.length_append]; omega
set_option maxHeartbeats 1600000 in
set_option maxRecDepth 100000 in
theorem slices_Concat_string_string.calls (A0 : Option Addr) (c0 : Nat) (l0 : List (List ByteArray)) (r : List ByteArray) (w : World) (hr0 : Kd.C (Kd.slice 9 Kd.string) w A0 l0.length l0) (hc0 : l0.length ≤ c0) (h : slices_Concat_string_string.f l0 = some r) :
    Calls Try.prog 70 #[.slice A0 l0.length c0] w fun e w' => ∃ v0_ : Value, e = .returned v0_ ∧ Kd.R Kd.string 9 w' w.heap.size (fun _ => True) v0_ r ∧ Below w.heap.size w w' := by
  unfold slices_Concat_string_string.f at h
  split at h
  · rename_i hb
    obtain ⟨n1, n2⟩ := hb
    obtain rfl := Option.some.inj h
    have HR0 := Aside0.mk hr0
    clear hr0 h
    have hfl := Aside0.mk (fun i => flat_le l0 i)
    have GR := Aside0.mk (grow_nil (lenTo l0 l0.length) (by unfold lenTo; rw [List.take_length]; exact n2))
    go_enter Try.func70, Try.ntmps70
    go_wp2
    go_loopw [3, 11] (fun v3 v11 wr => ∃ i : Nat, v3 = .int .i64 (lenTo l0 i : Int) ∧ v11 = .int .i64 (i : Int) ∧ Aside0 (i ≤ l0.length) ∧ wr = w) (fun _ v _ => ((l0.length : Int) - intOf v).toNat)
    case atStart => exact ⟨0, by simp [lenTo], rfl, ⟨Nat.zero_le _⟩, by first | rfl | trivial⟩
    case round =>
      obtain ⟨i, rfl, rfl, HI, hw⟩ := hrel
      obtain rfl : w = wr := hw.symm
      clear hw
      have hi := HI.out
      by_cases hlt : i < l0.length
      · have hb : decide ((i : Int) < (l0.length : Int)) = true := decide_eq_true (by omega)
        have p2 : ((i : Int) < (l0.length : Int)) = True := eq_true (by omega)
        have p3 : (i < l0.length) = True := eq_true hlt
        obtain ⟨ad, Ai, ci, eA, hx, hcl, hC⟩ := at_L6 HR0.out (i : Int) (by omega) (by omega)
        cases eA
        rw [Int.toNat_natCast] at hx
        have hli : rd_L6 l0 (i : Int) = l0[i] := by unfold rd_L6; simp [hlt]
        rw [hli] at hx hcl hC
        have hs := flat_succ l0 i hlt
        have hle := hfl.out (i + 1)
        have hE := Aside0.mk (show ((lenTo l0 (i + 1) : Nat) : Int) = (lenTo l0 i : Int) + ((l0[i]).length : Int) by unfold lenTo; rw [hs, List.length_append, Int.natCast_add])
        have hbd : lenTo l0 i + (l0[i]).length ≤ 1000000 := by unfold lenTo; rw [hs, List.length_append] at hle; omega
        clear hs hle hli hC hcl
        generalize hL : lenTo l0 i = L at *
        generalize hM : (l0[i]).length = M at *
        clear hL hM
        have hnn : decide ((L : Int) + (M : Int) < 0) = false := decide_eq_false (by omega)
        go_wp2
        go_roundw
        case rel => exact ⟨i + 1, by rw [hE.out], by go_num, ⟨by omega⟩, by first | rfl | trivial⟩
        case measure => simp [intOf]; omega
      · have hb : decide ((i : Int) < (l0.length : Int)) = false := decide_eq_false (by omega)
        have hii : i = l0.length := by omega
        subst hii
        clear HI hi
        go_wp2_with (first | (go_at_call 93; refine (GR.out _).mono ?_; rintro e w1 ⟨v1, rfl, ho1, hb1⟩; have HO1 := Aside0.mk ho1; have HB1 := Aside0.mk hb1; clear ho1 hb1))
        go_loopw [6, 27] (fun v6 v27 wr2 => ∃ (i : Nat) (V6 : Value), v6 = V6 ∧ v27 = .int .i64 (i : Int) ∧ Aside0 (i ≤ l0.length) ∧ Aside0 (Kd.R Kd.string 9 wr2 w.heap.size (fun _ => True) V6 (l0.take i).flatten) ∧ Aside0 (Below w.heap.size w wr2)) (fun _ v _ => ((l0.length : Int) - intOf v).toNat)
        case atStart => exact ⟨0, _, rfl, rfl, ⟨Nat.zero_le _⟩, HO1, HB1⟩
        case round =>
          clear HO1 HB1
          obtain ⟨j, V6, hV6, rfl, HJ, HO, HB⟩ := hrel
          replace hV6 := hV6.symm
          subst hV6
          have hj := HJ.out
          by_cases hlt : j < l0.length
          · have hb : decide ((j : Int) < (l0.length : Int)) = true := decide_eq_true (by omega)
            have p2 : ((j : Int) < (l0.length : Int)) = True := eq_true (by omega)
            have p3 : (j < l0.length) = True := eq_true hlt
            obtain ⟨ad, Ai, ci, eA, hx, hcl, hC⟩ := at_L6 HR0.out (j : Int) (by omega) (by omega)
            cases eA
            rw [Int.toNat_natCast] at hx
            have hli : rd_L6 l0 (j : Int) = l0[j] := by unfold rd_L6; simp [hlt]
            rw [hli] at hx hcl hC
            replace hx := pw_cell_below HB.out hx
            have HCj := Aside0.mk hC
            have hs := Aside0.mk (flat_succ l0 j hlt)
            have hle := hfl.out (j + 1)
            have HL := Aside0.mk (show (l0.take j).flatten.length + (l0[j]).length ≤ 1000000 by rw [hs.out, List.length_append] at hle; omega)
            clear hle hli hC
            go_wp2_with (first | ((with_reducible refine gate_builtin (b := .append) (xs := #[.tmp 31, .tmp 32]) rfl ?_); at_builtin; (refine Kd.R_append_row Value.string (⟨#[]⟩ : ByteArray) (h1 := fun _ => rfl) (w0 := w) w.heap.size rfl (.tmp 31) (.tmp 32) 24 9 (.string ⟨#[]⟩) 16 rfl Try.underlying24 info9 rfl (by decide) V6 (l0.take j).flatten l0[j] Ai _ ci (fun _ => True) rfl rfl (fun _ _ => trivial) HO.out (Kd.C_below HCj.out HB.out) HB.out HB.out.size (by have := HL.out; omega) ?_; intro v103 w7 ho hb8 hg hat; have n0_ := Aside0.mk hb8; have n1_ := Aside0.mk ho; clear HO HB ho hb8 hg hat)))
            go_roundw
            case rel => exact ⟨j + 1, _, rfl, by go_num, ⟨by omega⟩, ⟨by rw [hs.out]; exact n1_.out⟩, n0_⟩
            case measure => simp [intOf]; omega
          · have hb : decide ((j : Int) < (l0.length : Int)) = false := decide_eq_false (by omega)
            have hjj : j = l0.length := by omega
            have HO' := HO.out
            have HB' := HB.out
            rw [hjj, List.take_length] at HO'
            clear HJ HO HB
            go_wp2
            go_ret
            exact ⟨_, rfl, HO', HB'⟩
  · cases h
/-- What Sort is asked for (its list stands in Compact's answer). -/
def slices_Sort_string_string.f (l : List ByteArray) : Option Unit := if l.length < 4611686018427387904 then some () else none
/-- Sorted, each text once. -/
def slices_Compact_string_string.f (l : List ByteArray) : Option (List ByteArray) := some (compB (sortB l))
theorem sort_calls (A : Option Addr) (c : Nat) (xs : List ByteArray) (w0 w : World) (base : Nat) (ok : Nat → Prop) (HO : Kd.R Kd.string 9 w base ok (.slice A xs.length c) xs) (HB : Below base w0 w) (h : slices_Sort_string_string.f xs = some ()) :
    Calls Try.prog 86 #[.slice A xs.length c] w fun e w' => e = .returned (.tuple #[]) ∧ Kd.R Kd.string 9 w' base ok (.slice A xs.length c) (sortB xs) ∧ Below base w0 w' := by
  unfold slices_Sort_string_string.f at h
  split at h
  · rename_i hl; exact sort_row A c xs w0 w base ok HO HB hl
  · cases h
theorem compact_calls (A : Option Addr) (c : Nat) (xs r : List ByteArray) (w0 w : World) (base : Nat) (ok : Nat → Prop) (HO : Kd.R Kd.string 9 w base ok (.slice A xs.length c) (sortB xs)) (HB : Below base w0 w) (h1 : slices_Sort_string_string.f xs = some ()) (h : slices_Compact_string_string.f xs = some r) :
    Calls Try.prog 87 #[.slice A xs.length c] w fun e w' => ∃ v : Value, e = .returned v ∧ Kd.R Kd.string 9 w' base ok v r ∧ Below base w0 w' := by
  unfold slices_Sort_string_string.f at h1
  obtain rfl := Option.some.inj h
  split at h1
  · rename_i hl; exact compact_row A c (sortB xs) xs.length (sortB_length xs).symm w0 w base ok HO HB (by rw [sortB_length]; exact hl)
  · cases h1
end Go.Proofs.Ytlkgdfeeepiidaa.All
