/- The statement MarksBackSaid: for every input the law returns true and each argument reads behind the call as before; no condition. Out of the plain law (PureMarksBack) and the printed walk; laid by a program of this repo (wip/mkrow.py). -/
import Derived.Test.YtlkgdfeeepiidaaRows
import Derived.Test.YtlkgdfeeepiidaaF25
import Derived.Test.YtlkgdfeeepiidaaPureMarksBack
import Derived.Test.YtlkgdfeeepiidaaHead
import Derived.Lib.SmallJoins
import Derived.WalkKit
import Derived.ProofKit
import Derived.OpenShut
import Derived.ShutString
import Derived.ChangeOld
import Derived.Below
import Derived.SizedLaws
import Derived.SliceStrings
import Derived.Test.YtlkgdfeeepiidaaWSized
import Derived.Test.YtlkgdfeeepiidaaHRow
namespace Go.Proofs.Ytlkgdfeeepiidaa.marksBack
open Go.ChangeShapes Go.WideShapes Go.ChangeAt Go.RowKit
open Go.ChangeMaps (open_string shut_string)
set_option linter.unusedVariables false
theorem own : ownKnob Try.prog.godebug = none := by kernel_rfl
theorem laidOut : laidOutB Try.prog = true := by kernel_rfl
set_option maxRecDepth 100000 in
theorem lifted (os : Os) (started : os.Started) (H : Type) (enc : TypeId × Value → H) :
    ReturnsInHanded {} Try.checked os 25 .any (Rows.marksBackSpec.pre6 enc Try.prog Try.f25 Rows.marksBackRow.domain false) (Rows.marksBackSpec.post enc Try.prog Try.f25 false true false false) := by
  refine returnsInHanded_of_change_sized (C := Try.checked) own started (by kernel_rfl) Try.func25
    (ChangeSpec.witness6 (enc := enc) (C := Try.checked) false ⟨#[], #[.int .i64 0, .agg #[.string ⟨#[]⟩, .string ⟨#[]⟩, .string ⟨#[]⟩], .slice none 0 0, .slice none 0 0, .slice none 0 0, .slice none 0 0, .slice none 0 0], []⟩ 8 (by kernel_rfl) (by kernel_rfl) (by kernel_rfl) (by kernel_rfl)) ?_
  intro W base args ds gs before hval0 hW hcnd hsz0 _
  have hsz : (DataW.weightsEach Try.prog (Try.f25.params.toList ++ Rows.marksBackSpec.plain.varTypes Try.prog) (ds ++ gs)).all (· ≤ reachBytes) = true := hsz0
  have hval : ∀ (j : Nat) t v, Try.f25.params[j]? = some t → args[j]? = some v → Value.okWide Try.prog W .any base t v := hval0
  have hW' := hW
  obtain ⟨p, q, hA0, hV, rfl, hfz, hnd⟩ := hW
  have hA : DataW.TrodAll enc Try.prog W 0 (fun _ => true) true Try.f25.params.toList args.toList ds p := hA0
  rw [Try.params25] at hA hval hsz
  obtain ⟨v0, vs0, d0, ds0, p0, q0, hargs, rfl, rfl, h0, r0⟩ := trodAll_cons hA
  obtain ⟨v1, vs1, d1, ds1, p1, q1, rfl, rfl, rfl, h1, r1⟩ := trodAll_cons r0
  obtain ⟨v2, vs2, d2, ds2, p2, q2, rfl, rfl, rfl, h2, r2⟩ := trodAll_cons r1
  obtain ⟨v3, vs3, d3, ds3, p3, q3, rfl, rfl, rfl, h3, r3⟩ := trodAll_cons r2
  obtain ⟨v4, vs4, d4, ds4, p4, q4, rfl, rfl, rfl, h4, r4⟩ := trodAll_cons r3
  obtain ⟨v5, vs5, d5, ds5, p5, q5, rfl, rfl, rfl, h5, r5⟩ := trodAll_cons r4
  obtain ⟨v6, vs6, d6, ds6, p6, q6, rfl, rfl, rfl, h6, r6⟩ := trodAll_cons r5
  obtain ⟨rfl, rfl, rfl⟩ := trodAll_nil r6
  obtain rfl : args = #[v0, v1, v2, v3, v4, v5, v6] := by cases args; simp_all
  obtain ⟨rfl, rfl⟩ := trodVars_none hV
  obtain ⟨a0, rfl, rfl, rfl, w0⟩ := open_int Try.underlying3 (hval 0 3 v0 rfl rfl) h0
  obtain ⟨b10, b11, b12, x10, x11, x12, m1, rfl, rfl, rfl, t10, t11, t12⟩ := Go.Joins.open_agg3 Try.underlying47 (by kernel_rfl) (by kernel_rfl) (hval 1 47 v1 rfl rfl) h1
  obtain ⟨a10, e10, rfl, y10⟩ := DataW.trod_string (t := 9) Try.underlying9 t10
  obtain rfl := List.singleton_inj.1 e10
  have w10 : a10.size ≤ 140737488351232 := by
    have z := List.all_eq_true.1 hsz _ (DataW.weights_mem_each (j := 1) (t := 47) rfl rfl a10.data.toList.length (by simp [DataW.weights, DataW.weightsEach, Try.underlying47]))
    rw [Array.length_toList] at z
    exact of_decide_eq_true z
  obtain ⟨a11, e11, rfl, y11⟩ := DataW.trod_string (t := 9) Try.underlying9 t11
  obtain rfl := List.singleton_inj.1 e11
  have w11 : a11.size ≤ 140737488351232 := by
    have z := List.all_eq_true.1 hsz _ (DataW.weights_mem_each (j := 1) (t := 47) rfl rfl a11.data.toList.length (by simp [DataW.weights, DataW.weightsEach, Try.underlying47]))
    rw [Array.length_toList] at z
    exact of_decide_eq_true z
  obtain ⟨a12, e12, rfl, y12⟩ := DataW.trod_string (t := 9) Try.underlying9 t12
  obtain rfl := List.singleton_inj.1 e12
  have w12 : a12.size ≤ 140737488351232 := by
    have z := List.all_eq_true.1 hsz _ (DataW.weights_mem_each (j := 1) (t := 47) rfl rfl a12.data.toList.length (by simp [DataW.weights, DataW.weightsEach, Try.underlying47]))
    rw [Array.length_toList] at z
    exact of_decide_eq_true z
  obtain ⟨a2, len2, cap2, rfl⟩ := okWide_slice Try.underlying24 (hval 2 24 v2 rfl rfl)
  have k2 := h2
  have lt2 : ∀ x ∈ p2, x.block < W.heap.size := by obtain ⟨m, hm⟩ := k2; exact DataW.trod_lt m _ _ _ hm
  obtain ⟨l2, rfl, hr2, hc2, hs2, hm2⟩ : ∃ l : List ByteArray, len2 = l.length ∧ Go.Proofs.YtlkgdfeeepiidaaW.PrintWords.Kd.C Go.Proofs.YtlkgdfeeepiidaaW.PrintWords.Kd.string W a2 l.length l ∧ l.length ≤ cap2 ∧ (∀ s ∈ l, s.size ≤ maxLen) ∧ l.length ≤ maxLen := by
    obtain ⟨fuel, hf⟩ := h2
    rcases open_strings Try.underlying24 Try.underlying9 (by kernel_rfl) hf with ⟨hcs, _⟩ | ⟨x, l, c, ss, hcs, _, hl, hm, hz, _, hcell, hsz⟩
    · simp [Value.cells] at hcs
      obtain ⟨rfl, rfl, rfl⟩ := hcs
      exact ⟨[], HRow.nil_row _⟩
    · simp [Value.cells] at hcs
      obtain ⟨rfl, rfl, rfl⟩ := hcs
      exact ⟨ss.take _, HRow.strs_row hl hm (by simpa using hz) hcell hsz⟩
  obtain ⟨a3, len3, cap3, rfl⟩ := okWide_slice Try.underlying24 (hval 3 24 v3 rfl rfl)
  have k3 := h3
  have lt3 : ∀ x ∈ p3, x.block < W.heap.size := by obtain ⟨m, hm⟩ := k3; exact DataW.trod_lt m _ _ _ hm
  obtain ⟨l3, rfl, hr3, hc3, hs3, hm3⟩ : ∃ l : List ByteArray, len3 = l.length ∧ Go.Proofs.YtlkgdfeeepiidaaW.PrintWords.Kd.C Go.Proofs.YtlkgdfeeepiidaaW.PrintWords.Kd.string W a3 l.length l ∧ l.length ≤ cap3 ∧ (∀ s ∈ l, s.size ≤ maxLen) ∧ l.length ≤ maxLen := by
    obtain ⟨fuel, hf⟩ := h3
    rcases open_strings Try.underlying24 Try.underlying9 (by kernel_rfl) hf with ⟨hcs, _⟩ | ⟨x, l, c, ss, hcs, _, hl, hm, hz, _, hcell, hsz⟩
    · simp [Value.cells] at hcs
      obtain ⟨rfl, rfl, rfl⟩ := hcs
      exact ⟨[], HRow.nil_row _⟩
    · simp [Value.cells] at hcs
      obtain ⟨rfl, rfl, rfl⟩ := hcs
      exact ⟨ss.take _, HRow.strs_row hl hm (by simpa using hz) hcell hsz⟩
  obtain ⟨a4, len4, cap4, rfl⟩ := okWide_slice Try.underlying24 (hval 4 24 v4 rfl rfl)
  have k4 := h4
  have lt4 : ∀ x ∈ p4, x.block < W.heap.size := by obtain ⟨m, hm⟩ := k4; exact DataW.trod_lt m _ _ _ hm
  obtain ⟨l4, rfl, hr4, hc4, hs4, hm4⟩ : ∃ l : List ByteArray, len4 = l.length ∧ Go.Proofs.YtlkgdfeeepiidaaW.PrintWords.Kd.C Go.Proofs.YtlkgdfeeepiidaaW.PrintWords.Kd.string W a4 l.length l ∧ l.length ≤ cap4 ∧ (∀ s ∈ l, s.size ≤ maxLen) ∧ l.length ≤ maxLen := by
    obtain ⟨fuel, hf⟩ := h4
    rcases open_strings Try.underlying24 Try.underlying9 (by kernel_rfl) hf with ⟨hcs, _⟩ | ⟨x, l, c, ss, hcs, _, hl, hm, hz, _, hcell, hsz⟩
    · simp [Value.cells] at hcs
      obtain ⟨rfl, rfl, rfl⟩ := hcs
      exact ⟨[], HRow.nil_row _⟩
    · simp [Value.cells] at hcs
      obtain ⟨rfl, rfl, rfl⟩ := hcs
      exact ⟨ss.take _, HRow.strs_row hl hm (by simpa using hz) hcell hsz⟩
  obtain ⟨a5, len5, cap5, rfl⟩ := okWide_slice Try.underlying24 (hval 5 24 v5 rfl rfl)
  have k5 := h5
  have lt5 : ∀ x ∈ p5, x.block < W.heap.size := by obtain ⟨m, hm⟩ := k5; exact DataW.trod_lt m _ _ _ hm
  obtain ⟨l5, rfl, hr5, hc5, hs5, hm5⟩ : ∃ l : List ByteArray, len5 = l.length ∧ Go.Proofs.YtlkgdfeeepiidaaW.PrintWords.Kd.C Go.Proofs.YtlkgdfeeepiidaaW.PrintWords.Kd.string W a5 l.length l ∧ l.length ≤ cap5 ∧ (∀ s ∈ l, s.size ≤ maxLen) ∧ l.length ≤ maxLen := by
    obtain ⟨fuel, hf⟩ := h5
    rcases open_strings Try.underlying24 Try.underlying9 (by kernel_rfl) hf with ⟨hcs, _⟩ | ⟨x, l, c, ss, hcs, _, hl, hm, hz, _, hcell, hsz⟩
    · simp [Value.cells] at hcs
      obtain ⟨rfl, rfl, rfl⟩ := hcs
      exact ⟨[], HRow.nil_row _⟩
    · simp [Value.cells] at hcs
      obtain ⟨rfl, rfl, rfl⟩ := hcs
      exact ⟨ss.take _, HRow.strs_row hl hm (by simpa using hz) hcell hsz⟩
  obtain ⟨a6, len6, cap6, rfl⟩ := okWide_slice Try.underlying24 (hval 6 24 v6 rfl rfl)
  have k6 := h6
  have lt6 : ∀ x ∈ p6, x.block < W.heap.size := by obtain ⟨m, hm⟩ := k6; exact DataW.trod_lt m _ _ _ hm
  obtain ⟨l6, rfl, hr6, hc6, hs6, hm6⟩ : ∃ l : List ByteArray, len6 = l.length ∧ Go.Proofs.YtlkgdfeeepiidaaW.PrintWords.Kd.C Go.Proofs.YtlkgdfeeepiidaaW.PrintWords.Kd.string W a6 l.length l ∧ l.length ≤ cap6 ∧ (∀ s ∈ l, s.size ≤ maxLen) ∧ l.length ≤ maxLen := by
    obtain ⟨fuel, hf⟩ := h6
    rcases open_strings Try.underlying24 Try.underlying9 (by kernel_rfl) hf with ⟨hcs, _⟩ | ⟨x, l, c, ss, hcs, _, hl, hm, hz, _, hcell, hsz⟩
    · simp [Value.cells] at hcs
      obtain ⟨rfl, rfl, rfl⟩ := hcs
      exact ⟨[], HRow.nil_row _⟩
    · simp [Value.cells] at hcs
      obtain ⟨rfl, rfl, rfl⟩ := hcs
      exact ⟨ss.take _, HRow.strs_row hl hm (by simpa using hz) hcell hsz⟩
  clear hA0 hval0 hsz0 hsz
  obtain ⟨k, hk⟩ := Pure.MarksBack a0 w0 a10 w10 a11 w11 a12 w12 l2 hs2 hm2 l3 hs3 hm3 l4 hs4 hm4 l5 hs5 hm5 l6 hs6 hm6
  refine (All.emendationlaw06_MarksBack.calls k a0 a10 a11 a12 (fun k => k < W.heap.size) a2 cap2 l2 (fun k => k < W.heap.size) a3 cap3 l3 (fun k => k < W.heap.size) a4 cap4 l4 (fun k => k < W.heap.size) a5 cap5 l5 (fun k => k < W.heap.size) a6 cap6 l6 true W (Go.Proofs.YtlkgdfeeepiidaaW.PrintWords.Kd.V_mk hc2 (Go.Proofs.YtlkgdfeeepiidaaW.PrintWords.Kd.C_F (Go.Proofs.YtlkgdfeeepiidaaW.PrintWords.Kd.heap_string) hr2)) (Go.Proofs.YtlkgdfeeepiidaaW.PrintWords.Kd.V_mk hc3 (Go.Proofs.YtlkgdfeeepiidaaW.PrintWords.Kd.C_F (Go.Proofs.YtlkgdfeeepiidaaW.PrintWords.Kd.heap_string) hr3)) (Go.Proofs.YtlkgdfeeepiidaaW.PrintWords.Kd.V_mk hc4 (Go.Proofs.YtlkgdfeeepiidaaW.PrintWords.Kd.C_F (Go.Proofs.YtlkgdfeeepiidaaW.PrintWords.Kd.heap_string) hr4)) (Go.Proofs.YtlkgdfeeepiidaaW.PrintWords.Kd.V_mk hc5 (Go.Proofs.YtlkgdfeeepiidaaW.PrintWords.Kd.C_F (Go.Proofs.YtlkgdfeeepiidaaW.PrintWords.Kd.heap_string) hr5)) (Go.Proofs.YtlkgdfeeepiidaaW.PrintWords.Kd.V_mk hc6 (Go.Proofs.YtlkgdfeeepiidaaW.PrintWords.Kd.C_F (Go.Proofs.YtlkgdfeeepiidaaW.PrintWords.Kd.heap_string) hr6)) hk).mono fun e W' ⟨he, bel⟩ => ?_
  subst he
  exact ⟨_, rfl, _, _, _, [], _, [], hW', trodAll_mk1 (shut_bool Try.underlying4 _), (trodAll_cons_mk (shut_int Try.underlying3 w0) (trodAll_cons_mk (Go.Joins.shut_agg3 Try.underlying47 (by kernel_rfl) (by kernel_rfl) (Go.Deep.shut_string_cell Try.underlying9 y10) (Go.Deep.shut_string_cell Try.underlying9 y11) (Go.Deep.shut_string_cell Try.underlying9 y12)) (trodAll_cons_mk (Below.trod laidOut (by kernel_rfl) (of_decide_eq_true (by kernel_rfl)) k2 bel lt2) (trodAll_cons_mk (Below.trod laidOut (by kernel_rfl) (of_decide_eq_true (by kernel_rfl)) k3 bel lt3) (trodAll_cons_mk (Below.trod laidOut (by kernel_rfl) (of_decide_eq_true (by kernel_rfl)) k4 bel lt4) (trodAll_cons_mk (Below.trod laidOut (by kernel_rfl) (of_decide_eq_true (by kernel_rfl)) k5 bel lt5) (trodAll_cons_mk (Below.trod laidOut (by kernel_rfl) (of_decide_eq_true (by kernel_rfl)) k6 bel lt6) trodAll_mk0))))))), rfl, bel.frame _, fun h => by cases h⟩
theorem closed : joinedFacts Try.prog 25 Try.f25 Rows.marksBackSpec Rows.marksBackRow = true := by
  unfold joinedFacts
  rw [Head.mayEnter, Head.liftsFinal, Head.make]
  kernel_rfl
theorem over : Rows.marksBackRow.holds Try.pinned (OpenSpec.ofChange Rows.marksBackSpec) :=
  OpenClaim.holds_of_wide 25 Try.f25 rfl rfl rfl rfl rfl rfl rfl ⟨rfl, rfl, rfl, rfl, rfl⟩ rfl rfl rfl rfl rfl (by kernel_rfl) Try.func25 closed
    (of_decide_eq_true (by kernel_rfl)) (by unfold Func.isWrapper; first | (rw [if_pos (by decide +kernel)]; kernel_rfl) | (rw [if_neg (by decide +kernel)]; exact ⟨rfl, rfl⟩))
    (fun os started H enc _ => lifted os started H enc)
theorem proved : Rows.MarksBackSaid := over
#print axioms proved
end Go.Proofs.Ytlkgdfeeepiidaa.marksBack
namespace Go.Proofs.Ytlkgdfeeepiidaa
/-- The row, under a short name, for the claim. -/
theorem marksBack_holds : Rows.MarksBackSaid := marksBack.proved
end Go.Proofs.Ytlkgdfeeepiidaa
