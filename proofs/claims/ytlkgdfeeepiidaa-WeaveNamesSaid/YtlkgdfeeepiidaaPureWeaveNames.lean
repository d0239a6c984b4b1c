/- The plain law of WeaveNames: which numbers they are plays no part, but which are the same. No condition. -/
import Derived.Test.YtlkgdfeeepiidaaF20
import Derived.Test.YtlkgdfeeepiidaaWvM
import Derived.Test.YtlkgdfeeepiidaaWvLaws
import Derived.Test.YtlkgdfeeepiidaaWvS
namespace Go.Proofs.Ytlkgdfeeepiidaa.Pure
open Go.RowKit Go.Proofs.Ytlkgdfeeepiidaa.All Go.Proofs.Ytlkgdfeeepiidaa.Wv Go.Proofs.Ytlkgdfeeepiidaa.Lcs Go.Proofs.YtlkgdfeeepiidaaW.PrintWords Go.Proofs.YtlkgdfeeepiidaaW.PrintLast
def xr (add : Int) (a : Int) : Int := Go.bits .xor .i64 a add
theorem wf_range {a : Int} (h : (Lit.int .i64 a).wf = true) : -9223372036854775808 ≤ a ∧ a ≤ 9223372036854775807 := by
  simpa [Lit.wf, IntKind.min, IntKind.max, IntKind.signed, IntKind.bits] using h
theorem xr_inj (add a c : Int) (ha : (Lit.int .i64 a).wf = true) (hc : (Lit.int .i64 c).wf = true) (h : xr add a = xr add c) : a = c := by
  have ba := wf_range ha
  have bc := wf_range hc
  unfold xr Go.bits at h
  simp only [i64_w] at h
  have e : ∀ u v : BitVec 64, wrap64 (u.toNat : Int) = wrap64 (v.toNat : Int) → u = v := by
    intro u v huv
    have hu := u.isLt
    have hv := v.isLt
    unfold wrap64 at huv
    exact BitVec.eq_of_toNat_eq (by omega)
  have h1 := e _ _ h
  have h2 : BitVec.ofInt 64 a = BitVec.ofInt 64 c := by
    have h4 : BitVec.ofInt 64 a ^^^ BitVec.ofInt 64 add = BitVec.ofInt 64 c ^^^ BitVec.ofInt 64 add := h1
    have := congrArg (fun z => z ^^^ BitVec.ofInt 64 add) h4
    simpa [BitVec.xor_assoc] using this
  have h3 := congrArg BitVec.toInt h2
  rw [BitVec.toInt_ofInt, BitVec.toInt_ofInt] at h3
  rw [Int.bmod_eq_of_le (by omega) (by omega), Int.bmod_eq_of_le (by omega) (by omega)] at h3
  exact h3
theorem take_map_snoc (f : Int → Int) (l : List Int) (i : Nat) (h : i < l.length) : (l.take i).map f ++ [f l[i]] = (l.take (i + 1)).map f := by
  rw [List.take_succ_eq_append_getElem h, List.map_append]; rfl
theorem names_l2 (b o t b' o' : List Int) (add : Int) (ht : t.length ≤ 40) (hE : Ev (fun k => (weave_Chunks.f k b o t).bind fun t116 => ((emendationlaw05_list.f k t116).bind fun t119 => ((weave_Chunks.f k b' o' (t.map (xr add))).bind fun t122 => ((emendationlaw05_list.f k t122).bind fun t125 => ((emendationref05_Same.f k t119 t125).bind fun t128 => (some t128)))))) true) (d : Nat) : ∀ i : Nat, i + d = t.length →
    Ev (fun k => emendationlaw05_WeaveNames.l2 k b o t add b' o' ((t.take i).map (xr add)) (t.length : Int) (i : Int)) true := by
  induction d with
  | zero =>
    intro i hi
    refine Ev.step (fun k => ?_) hE
    have z : ¬ (i : Int) < (t.length : Int) := by omega
    rw [emendationlaw05_WeaveNames.l2, if_neg z, List.take_of_length_le (by omega)]
  | succ d ih =>
    intro i hi
    have z1 : (i : Int) < (t.length : Int) := by omega
    have z2 : (0 : Int) ≤ (i : Int) := by omega
    have z3 : ((t.take i).map (xr add)).length < 17592186044416 := by rw [List.length_map, List.length_take]; omega
    have z4 : i < t.length := by omega
    have w := wone i (by omega)
    have g := rd_nat t i z4
    have e := take_map_snoc (xr add) t i z4
    refine Ev.step (fun k => ?_) (ih (i + 1) (by clear w g e; omega))
    rw [emendationlaw05_WeaveNames.l2, if_pos z1, if_pos z2, if_pos z1, if_pos z3, g, w, ← e]
    rfl
theorem names_l1 (b o t b' : List Int) (add : Int) (ho : o.length ≤ 40) (hE : Ev (fun k => emendationlaw05_WeaveNames.l2 k b o t add b' (o.map (xr add)) [] (t.length : Int) 0) true) (d : Nat) : ∀ i : Nat, i + d = o.length →
    Ev (fun k => emendationlaw05_WeaveNames.l1 k b o t add b' ((o.take i).map (xr add)) (o.length : Int) (i : Int)) true := by
  induction d with
  | zero =>
    intro i hi
    refine Ev.step (fun k => ?_) hE
    have z : ¬ (i : Int) < (o.length : Int) := by omega
    rw [emendationlaw05_WeaveNames.l1, if_neg z, List.take_of_length_le (by omega)]
  | succ d ih =>
    intro i hi
    have z1 : (i : Int) < (o.length : Int) := by omega
    have z2 : (0 : Int) ≤ (i : Int) := by omega
    have z3 : ((o.take i).map (xr add)).length < 17592186044416 := by rw [List.length_map, List.length_take]; omega
    have z4 : i < o.length := by omega
    have w := wone i (by omega)
    have g := rd_nat o i z4
    have e := take_map_snoc (xr add) o i z4
    refine Ev.step (fun k => ?_) (ih (i + 1) (by clear w g e; omega))
    rw [emendationlaw05_WeaveNames.l1, if_pos z1, if_pos z2, if_pos z1, if_pos z3, g, w, ← e]
    rfl
theorem names_l0 (b o t : List Int) (add : Int) (hb : b.length ≤ 40) (hE : Ev (fun k => emendationlaw05_WeaveNames.l1 k b o t add (b.map (xr add)) [] (o.length : Int) 0) true) (d : Nat) : ∀ i : Nat, i + d = b.length →
    Ev (fun k => emendationlaw05_WeaveNames.l0 k b o t add ((b.take i).map (xr add)) (b.length : Int) (i : Int)) true := by
  induction d with
  | zero =>
    intro i hi
    refine Ev.step (fun k => ?_) hE
    have z : ¬ (i : Int) < (b.length : Int) := by omega
    rw [emendationlaw05_WeaveNames.l0, if_neg z, List.take_of_length_le (by omega)]
  | succ d ih =>
    intro i hi
    have z1 : (i : Int) < (b.length : Int) := by omega
    have z2 : (0 : Int) ≤ (i : Int) := by omega
    have z3 : ((b.take i).map (xr add)).length < 17592186044416 := by rw [List.length_map, List.length_take]; omega
    have z4 : i < b.length := by omega
    have w := wone i (by omega)
    have g := rd_nat b i z4
    have e := take_map_snoc (xr add) b i z4
    refine Ev.step (fun k => ?_) (ih (i + 1) (by clear w g e; omega))
    rw [emendationlaw05_WeaveNames.l0, if_pos z1, if_pos z2, if_pos z1, if_pos z3, g, w, ← e]
    rfl
theorem WeaveNames : emendationlaw05_WeaveNames.Pure := by
  intro b o t add _ _ wb _ _ wo _ _ wt _
  refine Ev.rounds (Ev.bind awake_ev ?_)
  rw [few_is]
  by_cases h : b.length ≤ 40 ∧ o.length ≤ 40 ∧ t.length ≤ 40
  · obtain ⟨h1, h2, h3⟩ := h
    have hinj : ∀ a ∈ b ++ o ++ t, ∀ c ∈ b ++ o ++ t, xr add a = xr add c → a = c := by
      have hw : ∀ a ∈ b ++ o ++ t, (Lit.int .i64 a).wf = true := by
        intro a ha
        rcases List.mem_append.1 ha with ha | ha
        · rcases List.mem_append.1 ha with ha | ha
          · exact wb a ha
          · exact wo a ha
        · exact wt a ha
      exact fun a ha c hc => xr_inj add a c (hw a ha) (hw c hc)
    have hch := chunks_map (xr add) b o t hinj
    have c1 := Chunks_ev b o t (by omega) (by omega) (by omega)
    have c2 := Chunks_ev (b.map (xr add)) (o.map (xr add)) (t.map (xr add)) (by simp; omega) (by simp; omega) (by simp; omega)
    rw [hch] at c2
    have hlen := chunks_length b o t
    have l1 := list_ev (chunks b o t) (by omega)
    have s1 := Same5_ev ((chunks b o t).map C113) (by rw [List.length_map]; omega)
    have hE : Ev (fun k => (weave_Chunks.f k b o t).bind fun t116 => ((emendationlaw05_list.f k t116).bind fun t119 => ((weave_Chunks.f k (b.map (xr add)) (o.map (xr add)) (t.map (xr add))).bind fun t122 => ((emendationlaw05_list.f k t122).bind fun t125 => ((emendationref05_Same.f k t119 t125).bind fun t128 => (some t128)))))) true := by
      obtain ⟨K1, c1⟩ := c1
      obtain ⟨K2, c2⟩ := c2
      obtain ⟨K3, l1⟩ := l1
      obtain ⟨K4, s1⟩ := s1
      refine ⟨K1 + K2 + K3 + K4, fun q hq => ?_⟩
      have n1 : weave_Chunks.f q b o t = some _ := c1 q (by omega)
      have n2 : weave_Chunks.f q (b.map (xr add)) (o.map (xr add)) (t.map (xr add)) = some _ := c2 q (by omega)
      have n3 : emendationlaw05_list.f q ((chunks b o t).map C75) = some _ := l1 q (by omega)
      have n4 : emendationref05_Same.f q ((chunks b o t).map C113) ((chunks b o t).map C113) = some true := s1 q (by omega)
      simp only [n1, n2, n3, n4, Option.bind_some]
    have e2 := names_l2 b o t _ _ add h3 hE t.length 0 (by omega)
    have e1 := names_l1 b o t _ add h2 e2 o.length 0 (by omega)
    have e0 := names_l0 b o t add h1 e1 b.length 0 (by omega)
    refine Ev.congr (f := fun k => emendationlaw05_WeaveNames.j0 k b o t add false) (fun k => ?_) (Ev.step (fun k => ?_) e0)
    · rw [if_pos rfl, Option.bind_some, decide_eq_true ⟨h1, h2, h3⟩]
      rfl
    · rfl
  · refine Ev.congr (f := fun k => emendationlaw05_WeaveNames.j0 k b o t add true) (fun k => ?_) (Ev.step (fun _ => rfl) (Ev.bind awake_ev (Ev.now true)))
    rw [if_pos rfl, Option.bind_some, decide_eq_false h]
    rfl
end Go.Proofs.Ytlkgdfeeepiidaa.Pure
