/- The statement MarksTurnsUptoSaid: for every input of bulk at most 1048576 the law returns true and each argument reads behind the call as before. Out of the plain law (PureMarksTurns) and the printed walk; laid by a program of this repo (wip/mkrow.py). -/
import Derived.Test.YtlkgdfeeepiidaaRows
import Derived.Test.YtlkgdfeeepiidaaF10
import Derived.Test.YtlkgdfeeepiidaaPureMarksTurns
import Derived.Test.YtlkgdfeeepiidaaHead
import Derived.Lib.SmallJoins
import Derived.Deep.CondSized
import Derived.JoinedCond
import Derived.WalkKit
import Derived.ProofKit
import Derived.OpenShut
import Derived.ShutString
import Derived.ChangeOld
import Derived.Below
import Derived.SizedLaws
import Derived.SliceStrings
import Derived.Test.YtlkgdfeeepiidaaWSized
import Derived.Test.YtlkgdfeeepiidaaHRow
namespace Go.Proofs.Ytlkgdfeeepiidaa.marksTurnsUpto
open Go.ChangeShapes Go.WideShapes Go.ChangeAt Go.RowKit
open Go.ChangeMaps (open_string shut_string)
set_option linter.unusedVariables false
theorem own : ownKnob Try.prog.godebug = none := by kernel_rfl
theorem laidOut : laidOutB Try.prog = true := by kernel_rfl
set_option maxRecDepth 100000 in
theorem lifted (os : Os) (started : os.Started) (H : Type) (enc : TypeId × Value → H) (F0 : Stop.Interp) :
    ReturnsInHanded {} Try.checked os 10 .any ((Rows.OpenSpec.upto Rows.marksTurnsSpec).pre6 enc Try.prog Try.f10 Rows.marksTurnsUptoRow.domain false) (((Rows.OpenSpec.upto Rows.marksTurnsSpec).at F0).post enc Try.prog Try.f10 false true false false) := by
  refine Go.returnsInHanded_of_cond_sized (C := Try.checked) (s := (Rows.OpenSpec.upto Rows.marksTurnsSpec)) (k := Rows.uptoSmall) rfl own started (by kernel_rfl) Try.func10
    (OpenSpec.witness (enc := enc) (C := Try.checked) (s := (Rows.OpenSpec.upto Rows.marksTurnsSpec)) (k := Rows.uptoSmall) rfl false ⟨#[], #[.agg #[.string ⟨#[]⟩, .string ⟨#[]⟩, .string ⟨#[]⟩], .slice none 0 0, .slice none 0 0, .slice none 0 0], []⟩ 8 (by kernel_rfl) (by kernel_rfl) (by kernel_rfl) (x := ([.agg [.lit (.string []), .lit (.string []), .lit (.string [])], .nil, .nil, .nil], [], [])) (by kernel_rfl) (by kernel_rfl) (by kernel_rfl)) ?_
  intro W base args ds gs before hval0 hW hcnd hkk hsz0 _
  have hsz : (DataW.weightsEach Try.prog (Try.f10.params.toList ++ (Rows.OpenSpec.upto Rows.marksTurnsSpec).bare.plain.varTypes Try.prog) (ds ++ gs)).all (· ≤ reachBytes) = true := hsz0
  have hval : ∀ (j : Nat) t v, Try.f10.params[j]? = some t → args[j]? = some v → Value.okWide Try.prog W .any base t v := hval0
  have hW' := hW
  obtain ⟨p, q, hA0, hV, rfl, hfz, hnd⟩ := hW
  have hA : DataW.TrodAll enc Try.prog W 0 (fun _ => true) true Try.f10.params.toList args.toList ds p := hA0
  rw [Try.params10] at hA hval hsz
  obtain ⟨v0, vs0, d0, ds0, p0, q0, hargs, rfl, rfl, h0, r0⟩ := trodAll_cons hA
  obtain ⟨v1, vs1, d1, ds1, p1, q1, rfl, rfl, rfl, h1, r1⟩ := trodAll_cons r0
  obtain ⟨v2, vs2, d2, ds2, p2, q2, rfl, rfl, rfl, h2, r2⟩ := trodAll_cons r1
  obtain ⟨v3, vs3, d3, ds3, p3, q3, rfl, rfl, rfl, h3, r3⟩ := trodAll_cons r2
  obtain ⟨rfl, rfl, rfl⟩ := trodAll_nil r3
  obtain rfl : args = #[v0, v1, v2, v3] := by cases args; simp_all
  obtain ⟨rfl, rfl⟩ := trodVars_none hV
  obtain ⟨b00, b01, b02, x00, x01, x02, m0, rfl, rfl, rfl, t00, t01, t02⟩ := Go.Joins.open_agg3 Try.underlying47 (by kernel_rfl) (by kernel_rfl) (hval 0 47 v0 rfl rfl) h0
  obtain ⟨a00, e00, rfl, y00⟩ := DataW.trod_string (t := 9) Try.underlying9 t00
  obtain rfl := List.singleton_inj.1 e00
  have w00 : a00.size ≤ 140737488351232 := by
    have z := List.all_eq_true.1 hsz _ (DataW.weights_mem_each (j := 0) (t := 47) rfl rfl a00.data.toList.length (by simp [DataW.weights, DataW.weightsEach, Try.underlying47]))
    rw [Array.length_toList] at z
    exact of_decide_eq_true z
  obtain ⟨a01, e01, rfl, y01⟩ := DataW.trod_string (t := 9) Try.underlying9 t01
  obtain rfl := List.singleton_inj.1 e01
  have w01 : a01.size ≤ 140737488351232 := by
    have z := List.all_eq_true.1 hsz _ (DataW.weights_mem_each (j := 0) (t := 47) rfl rfl a01.data.toList.length (by simp [DataW.weights, DataW.weightsEach, Try.underlying47]))
    rw [Array.length_toList] at z
    exact of_decide_eq_true z
  obtain ⟨a02, e02, rfl, y02⟩ := DataW.trod_string (t := 9) Try.underlying9 t02
  obtain rfl := List.singleton_inj.1 e02
  have w02 : a02.size ≤ 140737488351232 := by
    have z := List.all_eq_true.1 hsz _ (DataW.weights_mem_each (j := 0) (t := 47) rfl rfl a02.data.toList.length (by simp [DataW.weights, DataW.weightsEach, Try.underlying47]))
    rw [Array.length_toList] at z
    exact of_decide_eq_true z
  obtain ⟨a1, len1, cap1, rfl⟩ := okWide_slice Try.underlying24 (hval 1 24 v1 rfl rfl)
  have k1 := h1
  have lt1 : ∀ x ∈ p1, x.block < W.heap.size := by obtain ⟨m, hm⟩ := k1; exact DataW.trod_lt m _ _ _ hm
  obtain ⟨l1, rfl, hr1, hc1, hs1, hm1⟩ : ∃ l : List ByteArray, len1 = l.length ∧ Go.Proofs.YtlkgdfeeepiidaaW.PrintWords.Kd.C Go.Proofs.YtlkgdfeeepiidaaW.PrintWords.Kd.string W a1 l.length l ∧ l.length ≤ cap1 ∧ (∀ s ∈ l, s.size ≤ maxLen) ∧ l.length ≤ maxLen := by
    obtain ⟨fuel, hf⟩ := h1
    rcases open_strings Try.underlying24 Try.underlying9 (by kernel_rfl) hf with ⟨hcs, _⟩ | ⟨x, l, c, ss, hcs, _, hl, hm, hz, _, hcell, hsz⟩
    · simp [Value.cells] at hcs
      obtain ⟨rfl, rfl, rfl⟩ := hcs
      exact ⟨[], HRow.nil_row _⟩
    · simp [Value.cells] at hcs
      obtain ⟨rfl, rfl, rfl⟩ := hcs
      exact ⟨ss.take _, HRow.strs_row hl hm (by simpa using hz) hcell hsz⟩
  obtain ⟨a2, len2, cap2, rfl⟩ := okWide_slice Try.underlying24 (hval 2 24 v2 rfl rfl)
  have k2 := h2
  have lt2 : ∀ x ∈ p2, x.block < W.heap.size := by obtain ⟨m, hm⟩ := k2; exact DataW.trod_lt m _ _ _ hm
  obtain ⟨l2, rfl, hr2, hc2, hs2, hm2⟩ : ∃ l : List ByteArray, len2 = l.length ∧ Go.Proofs.YtlkgdfeeepiidaaW.PrintWords.Kd.C Go.Proofs.YtlkgdfeeepiidaaW.PrintWords.Kd.string W a2 l.length l ∧ l.length ≤ cap2 ∧ (∀ s ∈ l, s.size ≤ maxLen) ∧ l.length ≤ maxLen := by
    obtain ⟨fuel, hf⟩ := h2
    rcases open_strings Try.underlying24 Try.underlying9 (by kernel_rfl) hf with ⟨hcs, _⟩ | ⟨x, l, c, ss, hcs, _, hl, hm, hz, _, hcell, hsz⟩
    · simp [Value.cells] at hcs
      obtain ⟨rfl, rfl, rfl⟩ := hcs
      exact ⟨[], HRow.nil_row _⟩
    · simp [Value.cells] at hcs
      obtain ⟨rfl, rfl, rfl⟩ := hcs
      exact ⟨ss.take _, HRow.strs_row hl hm (by simpa using hz) hcell hsz⟩
  obtain ⟨a3, len3, cap3, rfl⟩ := okWide_slice Try.underlying24 (hval 3 24 v3 rfl rfl)
  have k3 := h3
  have lt3 : ∀ x ∈ p3, x.block < W.heap.size := by obtain ⟨m, hm⟩ := k3; exact DataW.trod_lt m _ _ _ hm
  obtain ⟨l3, rfl, hr3, hc3, hs3, hm3⟩ : ∃ l : List ByteArray, len3 = l.length ∧ Go.Proofs.YtlkgdfeeepiidaaW.PrintWords.Kd.C Go.Proofs.YtlkgdfeeepiidaaW.PrintWords.Kd.string W a3 l.length l ∧ l.length ≤ cap3 ∧ (∀ s ∈ l, s.size ≤ maxLen) ∧ l.length ≤ maxLen := by
    obtain ⟨fuel, hf⟩ := h3
    rcases open_strings Try.underlying24 Try.underlying9 (by kernel_rfl) hf with ⟨hcs, _⟩ | ⟨x, l, c, ss, hcs, _, hl, hm, hz, _, hcell, hsz⟩
    · simp [Value.cells] at hcs
      obtain ⟨rfl, rfl, rfl⟩ := hcs
      exact ⟨[], HRow.nil_row _⟩
    · simp [Value.cells] at hcs
      obtain ⟨rfl, rfl, rfl⟩ := hcs
      exact ⟨ss.take _, HRow.strs_row hl hm (by simpa using hz) hcell hsz⟩
  have hbulk := of_decide_eq_true hkk
  simp only [List.append_nil, Rows.uptoBulkAll, Rows.uptoBulk, Array.length_toList, ByteArray.size_data] at hbulk
  have u00 : a00.size ≤ 100000000 := by omega
  have u01 : a01.size ≤ 100000000 := by omega
  have u02 : a02.size ≤ 100000000 := by omega
  clear hA0 hval0 hsz0 hsz hbulk
  obtain ⟨k, hk⟩ := Pure.MarksTurns a00 u00 a01 u01 a02 u02 l1 hs1 hm1 l2 hs2 hm2 l3 hs3 hm3
  refine (All.emendationlaw06_MarksTurns.calls k a00 a01 a02 (fun k => k < W.heap.size) a1 cap1 l1 (fun k => k < W.heap.size) a2 cap2 l2 (fun k => k < W.heap.size) a3 cap3 l3 true W (Go.Proofs.YtlkgdfeeepiidaaW.PrintWords.Kd.V_mk hc1 (Go.Proofs.YtlkgdfeeepiidaaW.PrintWords.Kd.C_F (Go.Proofs.YtlkgdfeeepiidaaW.PrintWords.Kd.heap_string) hr1)) (Go.Proofs.YtlkgdfeeepiidaaW.PrintWords.Kd.V_mk hc2 (Go.Proofs.YtlkgdfeeepiidaaW.PrintWords.Kd.C_F (Go.Proofs.YtlkgdfeeepiidaaW.PrintWords.Kd.heap_string) hr2)) (Go.Proofs.YtlkgdfeeepiidaaW.PrintWords.Kd.V_mk hc3 (Go.Proofs.YtlkgdfeeepiidaaW.PrintWords.Kd.C_F (Go.Proofs.YtlkgdfeeepiidaaW.PrintWords.Kd.heap_string) hr3)) hk).mono fun e W' ⟨he, bel⟩ => ?_
  subst he
  exact ⟨_, rfl, _, _, _, [], _, [], hW', trodAll_mk1 (shut_bool Try.underlying4 _), (trodAll_cons_mk (Go.Joins.shut_agg3 Try.underlying47 (by kernel_rfl) (by kernel_rfl) (Go.Deep.shut_string_cell Try.underlying9 y00) (Go.Deep.shut_string_cell Try.underlying9 y01) (Go.Deep.shut_string_cell Try.underlying9 y02)) (trodAll_cons_mk (Below.trod laidOut (by kernel_rfl) (of_decide_eq_true (by kernel_rfl)) k1 bel lt1) (trodAll_cons_mk (Below.trod laidOut (by kernel_rfl) (of_decide_eq_true (by kernel_rfl)) k2 bel lt2) (trodAll_cons_mk (Below.trod laidOut (by kernel_rfl) (of_decide_eq_true (by kernel_rfl)) k3 bel lt3) trodAll_mk0)))), rfl, bel.frame _, fun h => by cases h⟩
theorem closed : joinedFacts Try.prog 10 Try.f10 (Rows.OpenSpec.upto Rows.marksTurnsSpec).bare Rows.marksTurnsUptoRow = true := by
  unfold joinedFacts
  rw [Head.mayEnter, Head.liftsFinal, Head.make]
  kernel_rfl
theorem over : Rows.marksTurnsUptoRow.holds Try.pinned (Rows.OpenSpec.upto Rows.marksTurnsSpec) :=
  OpenClaim.holds_of_cond 10 Try.f10 rfl rfl rfl rfl rfl rfl rfl ⟨rfl, rfl, rfl, rfl, rfl⟩ rfl rfl rfl rfl rfl (by kernel_rfl) Try.func10 closed
    (of_decide_eq_true (by kernel_rfl)) (by unfold Func.isWrapper; first | (rw [if_pos (by decide +kernel)]; kernel_rfl) | (rw [if_neg (by decide +kernel)]; exact ⟨rfl, rfl⟩))
    (fun os started H enc _ F0 => lifted os started H enc F0)
theorem proved : Rows.MarksTurnsUptoSaid := over
#print axioms proved
end Go.Proofs.Ytlkgdfeeepiidaa.marksTurnsUpto
namespace Go.Proofs.Ytlkgdfeeepiidaa
/-- The row, under a short name, for the claim. -/
theorem marksTurnsUpto_holds : Rows.MarksTurnsUptoSaid := marksTurnsUpto.proved
end Go.Proofs.Ytlkgdfeeepiidaa
