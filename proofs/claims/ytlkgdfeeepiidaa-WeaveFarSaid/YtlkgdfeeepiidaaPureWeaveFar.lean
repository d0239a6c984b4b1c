/- The plain law of WeaveFar: what each side puts in the place of a number that isn't near to the other side's is there in what comes of it, and nothing else changes. No condition. -/
import Derived.Test.YtlkgdfeeepiidaaF19
import Derived.Test.YtlkgdfeeepiidaaWvM
import Derived.Test.YtlkgdfeeepiidaaWvLaws
namespace Go.Proofs.Ytlkgdfeeepiidaa.Wv
open Go.Proofs.Ytlkgdfeeepiidaa.Lcs
theorem far_kp_self (l : List Int) (i : Nat) (h : i < l.length) : kp (prs l l 0 0) i = some i := by
  have := prs_self l 0 i (by omega)
  rw [Nat.zero_add] at this
  exact kp_prs.2 (List.mem_of_getElem? this)
theorem far_gp (b t : List Int) : gp b b t = some t := by
  unfold gp
  by_cases h : b = t
  · rw [if_pos h, h]
  · rw [if_neg h, if_pos rfl]
theorem far_gp' (b o : List Int) : gp b o b = some o := by
  unfold gp
  by_cases h : o = b
  · rw [if_pos h]
  · rw [if_neg h, if_neg h, if_pos rfl]
theorem far_mrg (b t : List Int) (K : List Tri) : ∀ x z, Chain b b t x x z K → (∀ p ∈ K, p.2.1 = p.1) → mrg b b t x x z K = some (t.drop z) := by
  induction K with
  | nil => intro x z _ _; rw [mrg, far_gp]
  | cons p K ih =>
    obtain ⟨i, j, k⟩ := p
    intro x z hc hk
    cases hc with
    | cons _ _ _ _ _ _ _ h1 h2 h3 hx hy hz e1 e2 hc =>
    have hki : j = i := hk (i, j, k) (List.mem_cons_self ..)
    subst hki
    rw [mrg, far_gp, Option.bind_some, ih _ _ hc (fun p hp => hk p (List.mem_cons_of_mem _ hp)), seg_one t k hz, Option.map_some]
    rw [List.singleton_append, ← List.drop_eq_getElem_cons hz, seg_drop t z k h3]
theorem far_base (b t : List Int) : merge b b t = some t := by
  unfold merge
  rw [far_mrg b t _ 0 0 (chain_tri b b t) (fun p hp => ?_), List.drop_zero]
  obtain ⟨_, h2, h3, _⟩ := trs_mem _ _ _ _ _ hp
  rw [far_kp_self b p.1 (by omega)] at h3
  exact (Option.some.inj h3).symm
theorem merge_fronts (p b o t : List Int) : merge (p ++ b) (p ++ o) (p ++ t) = (merge b o t).map (fun r => p ++ r) := by
  induction p with
  | nil => simp
  | cons x p ih =>
    rw [List.cons_append, List.cons_append, List.cons_append, merge_front, ih, Option.map_map]
    rfl
theorem lcs_skip (x : Int) (R m : List Int) (h : x ∉ m) : lcs (x :: R) m ≤ lcs R m := by
  obtain ⟨s, h1, h2, h3⟩ := lcs_has (x :: R) m
  rw [← h3]
  cases h1 with
  | cons _ h1 => exact lcs_ge R m s h1 h2
  | cons_cons _ h1 => exact absurd (h2.subset (List.mem_cons_self ..)) h
theorem prs_run (x : Int) (A R : List Int) (hA : ∀ a ∈ A, a ∉ R) (hR : R ≠ []) (d : Nat) : ∀ k, k + d = A.length → prs (x :: R) (A ++ R) 1 k = prs (x :: R) (A ++ R) 1 A.length := by
  induction d with
  | zero => intro k hk; have : k = A.length := by omega
            rw [this]
  | succ d ih =>
    intro k hk
    have hkl : k < A.length := by omega
    have hR0 : 0 < R.length := List.length_pos_iff.2 hR
    rw [prs_right _ _ 1 k (by simp; omega) (by simp; omega) ?_ ?_]
    · exact ih (k + 1) (by omega)
    · rw [List.getElem_append_left hkl, List.getElem_cons_succ]
      intro he
      exact hA _ (List.getElem_mem hkl) (he ▸ List.getElem_mem hR0)
    · unfold tv
      have h1 := lcs_le_left (List.drop (1 + 1) (x :: R)) (List.drop k (A ++ R))
      have h2 : lcs (List.drop 1 (x :: R)) (List.drop (k + 1) (A ++ R)) = R.length := by
        rw [List.drop_succ_cons, List.drop_zero, List.drop_append_of_le_length (by omega)]
        exact lcs_sub (List.sublist_append_right _ _)
      rw [List.drop_succ_cons, List.length_drop] at h1
      rw [h2, List.drop_succ_cons]
      omega
theorem prs_far (x : Int) (A R : List Int) (hx : x ∉ A ++ R) (hA : ∀ a ∈ A, a ∉ R) (hR : R ≠ []) : prs (x :: R) (A ++ R) 0 0 = sh 1 A.length (prs R R 0 0) := by
  have hR0 : 0 < R.length := List.length_pos_iff.2 hR
  have h0 : prs (x :: R) (A ++ R) 0 0 = prs (x :: R) (A ++ R) 1 0 := by
    refine prs_down _ _ 0 0 (by simp) (by simp; omega) ?_ ?_
    · rw [List.getElem_cons_zero]
      intro he
      exact hx (he ▸ List.getElem_mem _)
    · unfold tv
      have h2 : lcs (List.drop (0 + 1) (x :: R)) (List.drop 0 (A ++ R)) = R.length := by
        rw [List.drop_succ_cons, List.drop_zero, List.drop_zero]
        exact lcs_sub (List.sublist_append_right _ _)
      have h3 := lcs_skip x R (List.drop (0 + 1) (A ++ R)) (fun h => hx (List.mem_of_mem_drop h))
      have h4 := lcs_le_left R (List.drop (0 + 1) (A ++ R))
      rw [h2, List.drop_zero]
      omega
  rw [h0, prs_run x A R hA hR A.length 0 (Nat.zero_add _)]
  have := prs_app [x] A R R 0 0
  exact this
theorem mrg_lead (b o t : List Int) (x y z i j k : Nat) (K : List Tri) : mrg b o t x y z ((i, j, k) :: K) = (gp (seg b x i) (seg o y j) (seg t z k)).bind fun p => (mrg b o t i j k ((i, j, k) :: K)).map fun r => p ++ r := by
  rw [mrg, mrg, seg_nil, seg_nil, seg_nil, gp_nil, Option.bind_some]
  congr 1
  funext p
  rw [Option.map_map]
  rfl
theorem tri_head (m : Int) (b o t : List Int) : ∃ K, tri (m :: b) (m :: o) (m :: t) = (0, 0, 0) :: K := by
  unfold tri
  rw [List.length_cons, trs_some _ _ _ _ _ _ (kp_front m b o) (kp_front m b t)]
  exact ⟨_, rfl⟩
/-- A number in the base that one side turns into others, with a number behind it that both keep. -/
theorem merge_far (x m : Int) (A R R' : List Int) (hx : x ∉ A ++ m :: R) (hA : ∀ a ∈ A, a ∉ m :: R) : merge (x :: m :: R) (A ++ m :: R) (x :: m :: R') = some (A ++ m :: R') := by
  obtain ⟨K, hK⟩ := tri_head m R R R'
  have hP := prs_far x A (m :: R) hx hA (by simp)
  have hP0 : kp (prs (x :: m :: R) (A ++ m :: R) 0 0) 0 = none := by
    rw [hP]
    refine kp_none (fun j hj => ?_)
    unfold sh at hj
    obtain ⟨p, _, he⟩ := List.mem_map.1 hj
    have := congrArg Prod.fst he
    simp at this
  have hP1 : ∀ i, kp (prs (x :: m :: R) (A ++ m :: R) 0 0) (1 + i) = (kp (prs (m :: R) (m :: R) 0 0) i).map (A.length + ·) := fun i => by rw [hP, kp_sh]
  have htri : tri (x :: m :: R) (A ++ m :: R) (x :: m :: R') = (tri (m :: R) (m :: R) (m :: R')).map (sh3 1 A.length 1) := by
    have h := trs_sh 1 A.length 1 (prs (m :: R) (m :: R) 0 0) (prs (m :: R) (m :: R') 0 0) _ _ hP1 (kp_front' x (m :: R) (m :: R')) (m :: R).length 0
    unfold tri
    rw [List.length_cons (a := x), trs_none _ _ _ _ (Or.inl hP0)]
    exact h
  have hm := mrg_app [x] A [x] (m :: R) (m :: R) (m :: R') (tri (m :: R) (m :: R) (m :: R')) 0 0 0
  have hb := far_base (m :: R) (m :: R')
  unfold merge at hb ⊢
  rw [hb] at hm
  rw [htri, hK, List.map_cons]
  rw [hK, List.map_cons] at hm
  show mrg _ _ _ 0 0 0 ((1, A.length, 1) :: _) = _
  rw [mrg_lead]
  have hm' : mrg (x :: m :: R) (A ++ m :: R) (x :: m :: R') 1 A.length 1 ((1, A.length, 1) :: K.map (sh3 1 A.length 1)) = some (m :: R') := hm
  rw [hm']
  have s1 : seg (x :: m :: R) 0 1 = [x] := seg_one (x :: m :: R) 0 (by simp)
  have s2 : seg (x :: m :: R') 0 1 = [x] := seg_one (x :: m :: R') 0 (by simp)
  have s3 : seg (A ++ m :: R) 0 A.length = A := by unfold seg; simp
  rw [s1, s2, s3, far_gp']
  rfl
end Go.Proofs.Ytlkgdfeeepiidaa.Wv
namespace Go.Proofs.Ytlkgdfeeepiidaa.Pure
open Go.RowKit Go.Proofs.Ytlkgdfeeepiidaa.All Go.Proofs.Ytlkgdfeeepiidaa.Wv Go.Proofs.Ytlkgdfeeepiidaa.Lcs Go.Proofs.YtlkgdfeeepiidaaW.PrintWords Go.Proofs.YtlkgdfeeepiidaaW.PrintLast
/-- The numbers below i, with others in some places. -/
def put (f : Nat → List Int) (i : Nat) : List Int := (List.range i).flatMap f
theorem put_succ (f : Nat → List Int) (i : Nat) : put f (i + 1) = put f i ++ f i := by unfold put; rw [List.range_succ, List.flatMap_append]; simp
def plainF (j : Nat) : List Int := [(j : Int)]
def oneF (x : Nat) (A : List Int) (j : Nat) : List Int := if j = x then A else [(j : Int)]
def twoF (x y : Nat) (A B : List Int) (j : Nat) : List Int := if j = x then A else if j = y then B else [(j : Int)]
theorem put_add (f : Nat → List Int) (i n : Nat) : put f (i + n) = put f i ++ put (fun j => f (i + j)) n := by
  induction n with
  | zero => simp [put]
  | succ n ih => rw [← Nat.add_assoc, put_succ, ih, put_succ, List.append_assoc]
theorem put_congr {f g : Nat → List Int} (n : Nat) (h : ∀ j, j < n → f j = g j) : put f n = put g n := by
  induction n with
  | zero => rfl
  | succ n ih => rw [put_succ, put_succ, ih (fun j hj => h j (by omega)), h n (by omega)]
theorem put_length (f : Nat → List Int) (c : Nat) (h : ∀ j, (f j).length ≤ c) (n : Nat) : (put f n).length ≤ n * c := by
  induction n with
  | zero => simp [put]
  | succ n ih => rw [put_succ, List.length_append, Nat.succ_mul]; have := h n; omega
theorem put_mem (f : Nat → List Int) (n : Nat) (v : Int) (h : v ∈ put f n) : ∃ j, j < n ∧ v ∈ f j := by
  unfold put at h
  obtain ⟨j, hj, hv⟩ := List.mem_flatMap.1 h
  exact ⟨j, List.mem_range.1 hj, hv⟩
/-- What the law builds, and what comes of it. -/
theorem far_merge (n x y : Nat) (A B : List Int) (hxy : x + 2 ≤ y) (hyn : y < n) (hn : n ≤ 1000) (hA : ∀ a ∈ A, 1000 ≤ a) :
    merge (put plainF n) (put (oneF x A) n) (put (oneF y B) n) = some (put (twoF x y A B) n) := by
  obtain ⟨r, rfl⟩ : ∃ r, n = x + (1 + (1 + r)) := ⟨n - x - 2, by omega⟩
  have hd : ∀ f : Nat → List Int, put f (x + (1 + (1 + r))) = put f x ++ (f x ++ (f (x + 1) ++ put (fun j => f (x + 1 + 1 + j)) r)) := by
    intro f
    rw [put_add f x, put_add _ 1 (1 + r), put_add _ 1 r]
    have h1 : ∀ g : Nat → List Int, put g 1 = g 0 := fun g => by simp [put]
    rw [h1, h1]
    congr 3
    congr 1
    funext j
    congr 1
    omega
  rw [hd, hd, hd, hd]
  have e1 : put (oneF x A) x = put plainF x := put_congr x (fun j hj => by unfold oneF plainF; rw [if_neg (by omega)])
  have e2 : put (oneF y B) x = put plainF x := put_congr x (fun j hj => by unfold oneF plainF; rw [if_neg (by omega)])
  have e3 : put (twoF x y A B) x = put plainF x := put_congr x (fun j hj => by unfold twoF plainF; rw [if_neg (by omega), if_neg (by omega)])
  have g1 : oneF x A x = A := by unfold oneF; rw [if_pos rfl]
  have g2 : oneF y B x = [(x : Int)] := by unfold oneF; rw [if_neg (by omega)]
  have g3 : twoF x y A B x = A := by unfold twoF; rw [if_pos rfl]
  have k1 : oneF x A (x + 1) = [((x + 1 : Nat) : Int)] := by unfold oneF; rw [if_neg (by omega)]
  have k2 : oneF y B (x + 1) = [((x + 1 : Nat) : Int)] := by unfold oneF; rw [if_neg (by omega)]
  have k3 : twoF x y A B (x + 1) = [((x + 1 : Nat) : Int)] := by unfold twoF; rw [if_neg (by omega), if_neg (by omega)]
  have t1 : put (fun j => oneF x A (x + 1 + 1 + j)) r = put (fun j => plainF (x + 1 + 1 + j)) r := put_congr r (fun j hj => by unfold oneF plainF; rw [if_neg (by omega)])
  have t2 : put (fun j => twoF x y A B (x + 1 + 1 + j)) r = put (fun j => oneF y B (x + 1 + 1 + j)) r := put_congr r (fun j hj => by unfold twoF oneF; rw [if_neg (by omega)])
  rw [e1, e2, e3, g1, g2, g3, k1, k2, k3, t1, t2]
  rw [merge_fronts]
  have hmem : ∀ v ∈ ((x + 1 : Nat) : Int) :: put (fun j => plainF (x + 1 + 1 + j)) r, (x : Int) < v ∧ v < 1000 := by
    intro v hv
    rcases List.mem_cons.1 hv with rfl | hv
    · omega
    · obtain ⟨j, hj, hv⟩ := put_mem _ _ _ hv
      unfold plainF at hv
      have := List.mem_singleton.1 hv
      omega
  have hm := merge_far (x : Int) ((x + 1 : Nat) : Int) A (put (fun j => plainF (x + 1 + 1 + j)) r) (put (fun j => oneF y B (x + 1 + 1 + j)) r)
    (fun h => by
      rcases List.mem_append.1 h with h | h
      · have := hA _ h; omega
      · have := hmem _ h; omega)
    (fun a ha h => by have h1 := hA a ha; have h2 := hmem a h; omega)
  have p1 : plainF x = [(x : Int)] := rfl
  have p2 : plainF (x + 1) = [((x + 1 : Nat) : Int)] := rfl
  rw [p1, p2]
  simp only [List.singleton_append]
  rw [hm]
  rfl
/-- A list of bytes, each made greater. -/
def big (c : Int) (l : List Int) : List Int := l.map (fun v => wrap64 (c + wrap64 v))
theorem big_length (c : Int) (l : List Int) : (big c l).length = l.length := by simp [big]
theorem byte_wf {a : Int} (h : (Lit.int .u8 a).wf = true) : 0 ≤ a ∧ a ≤ 255 := by
  simpa [Lit.wf, IntKind.min, IntKind.max, IntKind.signed, IntKind.bits] using h
theorem big_ge (l : List Int) (hw : ∀ v ∈ l, (Lit.int .u8 v).wf = true) : ∀ a ∈ big 1000 l, 1000 ≤ a := by
  intro a ha
  unfold big at ha
  obtain ⟨v, hv, rfl⟩ := List.mem_map.1 ha
  have := byte_wf (hw v hv)
  have w1 : wrap64 v = v := wrap_in (by omega) (by omega)
  rw [w1]
  have w2 : wrap64 (1000 + v) = 1000 + v := wrap_in (by clear w1; omega) (by clear w1; omega)
  rw [w2]
  clear w1 w2
  omega
theorem big_snoc (c : Int) (l : List Int) (i : Nat) (h : i < l.length) : (big c l).take (i + 1) = (big c l).take i ++ [wrap64 (c + wrap64 (rd l (i : Int)))] := by
  rw [List.take_succ_eq_append_getElem (by rw [big_length]; exact h), rd_nat l i h]
  congr 1
  simp [big]
section
variable (A B : List Int) (n x y : Nat)
/-- The lists as they are when i numbers are gone through. -/
def st (k : Nat) (i : Nat) : Option Bool := emendationlaw05_WeaveFar.l0 k A B (x : Int) (y : Int) (put plainF i) (put (oneF x (big 1000 A)) i) (put (oneF y (big 2000 B)) i) (put (twoF x y (big 1000 A) (big 2000 B)) i) (n : Int) (i : Int)
end
theorem far_l1 (A B b o t w : List Int) (x y n i : Int) (m : Int) (hA : A.length ≤ 9) (ho : o.length ≤ 100000) (hw : w.length ≤ 100000) (h : Ev (fun k => emendationlaw05_WeaveFar.j3 k A B x y b (o ++ big 1000 A) t (w ++ big 1000 A) m n i) true) (d : Nat) :
    ∀ q : Nat, q + d = A.length → Ev (fun k => emendationlaw05_WeaveFar.l1 k A B x y b (o ++ (big 1000 A).take q) t (w ++ (big 1000 A).take q) m n i (A.length : Int) (q : Int)) true := by
  induction d with
  | zero =>
    intro q hq
    have z : ¬ (q : Int) < (A.length : Int) := by omega
    refine Ev.step (fun k => ?_) h
    rw [emendationlaw05_WeaveFar.l1, if_neg z, List.take_of_length_le (by rw [big_length]; omega)]
  | succ d ih =>
    intro q hq
    have z0 : q < A.length := by omega
    have z1 : (q : Int) < (A.length : Int) := by omega
    have z2 : (0 : Int) ≤ (q : Int) := by omega
    have l1 : ((big 1000 A).take q).length ≤ 9 := by rw [List.length_take, big_length]; omega
    have z3 : (o ++ (big 1000 A).take q).length + 1 < 17592186044416 := by rw [List.length_append]; omega
    have z4 : (w ++ (big 1000 A).take q).length + 1 < 17592186044416 := by rw [List.length_append]; omega
    have hs := big_snoc 1000 A q z0
    have ww := wone q (by clear hs; omega)
    refine Ev.step (fun k => ?_) (ih (q + 1) (by clear hs ww; omega))
    rw [emendationlaw05_WeaveFar.l1, if_pos z1, if_pos z2, if_pos z1, ww, hs, ← List.append_assoc, ← List.append_assoc]
    simp only [Option.bind_some, List.length_singleton, if_pos z3, if_pos z4]
theorem far_l2 (A B b o t w : List Int) (x y n i : Int) (m : Int) (hB : B.length ≤ 9) (ht : t.length ≤ 100000) (hw : w.length ≤ 100000) (hmx : m ≠ x) (hmy : m = y) (h : Ev (fun k => emendationlaw05_WeaveFar.l0 k A B x y b o (t ++ big 2000 B) (w ++ big 2000 B) n (wrap64 (i + 1))) true) (d : Nat) :
    ∀ q : Nat, q + d = B.length → Ev (fun k => emendationlaw05_WeaveFar.l2 k A B x y b o (t ++ (big 2000 B).take q) (w ++ (big 2000 B).take q) m n i (B.length : Int) (q : Int)) true := by
  induction d with
  | zero =>
    intro q hq
    have z : ¬ (q : Int) < (B.length : Int) := by omega
    refine Ev.step (fun k => ?_) h
    rw [emendationlaw05_WeaveFar.l2, if_neg z, if_neg hmx, if_pos hmy, List.take_of_length_le (by rw [big_length]; omega)]
  | succ d ih =>
    intro q hq
    have z0 : q < B.length := by omega
    have z1 : (q : Int) < (B.length : Int) := by omega
    have z2 : (0 : Int) ≤ (q : Int) := by omega
    have l1 : ((big 2000 B).take q).length ≤ 9 := by rw [List.length_take, big_length]; omega
    have z3 : (t ++ (big 2000 B).take q).length + 1 < 17592186044416 := by rw [List.length_append]; omega
    have z4 : (w ++ (big 2000 B).take q).length + 1 < 17592186044416 := by rw [List.length_append]; omega
    have hs := big_snoc 2000 B q z0
    have ww := wone q (by clear hs; omega)
    refine Ev.step (fun k => ?_) (ih (q + 1) (by clear hs ww; omega))
    rw [emendationlaw05_WeaveFar.l2, if_pos z1, if_pos z2, if_pos z1, ww, hs, ← List.append_assoc, ← List.append_assoc]
    simp only [Option.bind_some, List.length_singleton, if_pos z3, if_pos z4]
theorem far_step (A B : List Int) (n x y i : Nat) (hA : A.length ≤ 9) (hB : B.length ≤ 9) (hn : n ≤ 100) (hi : i < n) (hxy : x ≠ y) (nx : Ev (fun k => st A B n x y k (i + 1)) true) : Ev (fun k => st A B n x y k i) true := by
  have e1 : ∀ j, (plainF j).length ≤ 9 := fun j => by simp [plainF]
  have e2 : ∀ j, (oneF x (big 1000 A) j).length ≤ 9 := fun j => by unfold oneF; split <;> simp [big_length]; omega
  have e3 : ∀ j, (oneF y (big 2000 B) j).length ≤ 9 := fun j => by unfold oneF; split <;> simp [big_length]; omega
  have e4 : ∀ j, (twoF x y (big 1000 A) (big 2000 B) j).length ≤ 9 := fun j => by unfold twoF; split <;> (try split) <;> simp [big_length] <;> omega
  have g1 := put_length plainF 9 e1 i
  have g2 := put_length _ 9 e2 i
  have g3 := put_length _ 9 e3 i
  have g4 := put_length _ 9 e4 i
  clear e1 e2 e3 e4
  have a1 := put_succ plainF i
  have a2 := put_succ (oneF x (big 1000 A)) i
  have a3 := put_succ (oneF y (big 2000 B)) i
  have a4 := put_succ (twoF x y (big 1000 A) (big 2000 B)) i
  have z1 : (i : Int) < (n : Int) := by omega
  have ww := Aside0.mk (wone i (by omega))
  unfold st at nx ⊢
  generalize put plainF i = P1 at *
  generalize put (oneF x (big 1000 A)) i = P2 at *
  generalize put (oneF y (big 2000 B)) i = P3 at *
  generalize put (twoF x y (big 1000 A) (big 2000 B)) i = P4 at *
  rw [a1, a2, a3, a4] at nx
  clear a1 a2 a3 a4
  have c1 : P1.length + 1 < 17592186044416 := by omega
  have c2 : P2.length + 1 < 17592186044416 := by omega
  have c3 : P3.length + 1 < 17592186044416 := by omega
  have c4 : P4.length + 1 < 17592186044416 := by omega
  by_cases hx : i = x
  · subst hx
    have q1 : oneF i (big 1000 A) i = big 1000 A := by unfold oneF; rw [if_pos rfl]
    have q2 : oneF y (big 2000 B) i = [(i : Int)] := by unfold oneF; rw [if_neg hxy]
    have q3 : twoF i y (big 1000 A) (big 2000 B) i = big 1000 A := by unfold twoF; rw [if_pos rfl]
    rw [q1, q2, q3] at nx
    have niy : ¬ (i : Int) = (y : Int) := by omega
    have hj : Ev (fun k => emendationlaw05_WeaveFar.j3 k A B (i : Int) (y : Int) (P1 ++ plainF i) (P2 ++ big 1000 A) P3 (P4 ++ big 1000 A) (i : Int) (n : Int) (i : Int)) true := by
      refine Ev.step (fun k => ?_) nx
      rw [emendationlaw05_WeaveFar.j3, if_neg niy, ww.out]
      simp only [Option.bind_some, List.length_singleton, if_pos c3, reduceIte]
    have h1 := far_l1 A B (P1 ++ plainF i) P2 P3 P4 (i : Int) (y : Int) (n : Int) (i : Int) (i : Int) hA (by omega) (by omega) hj A.length 0 (Nat.zero_add _)
    rw [List.take_zero, List.append_nil, List.append_nil] at h1
    refine Ev.step (fun k => ?_) h1
    rw [emendationlaw05_WeaveFar.l0, if_pos z1]
    simp only [Option.bind_some, List.length_singleton, if_pos c1, reduceIte]
    rfl
  · have nix : ¬ (i : Int) = (x : Int) := by omega
    have q1 : oneF x (big 1000 A) i = [(i : Int)] := by unfold oneF; rw [if_neg hx]
    rw [q1] at nx
    have hj : Ev (fun k => emendationlaw05_WeaveFar.j3 k A B (x : Int) (y : Int) (P1 ++ plainF i) (P2 ++ [(i : Int)]) P3 P4 (i : Int) (n : Int) (i : Int)) true := by
      by_cases hy : i = y
      · subst hy
        have q2 : oneF i (big 2000 B) i = big 2000 B := by unfold oneF; rw [if_pos rfl]
        have q3 : twoF x i (big 1000 A) (big 2000 B) i = big 2000 B := by unfold twoF; rw [if_neg hx, if_pos rfl]
        rw [q2, q3, ← ww.out] at nx
        have h2 := far_l2 A B (P1 ++ plainF i) (P2 ++ [(i : Int)]) P3 P4 (x : Int) (i : Int) (n : Int) (i : Int) (i : Int) hB (by omega) (by omega) nix rfl nx B.length 0 (Nat.zero_add _)
        rw [List.take_zero, List.append_nil, List.append_nil] at h2
        refine Ev.step (fun k => ?_) h2
        rw [emendationlaw05_WeaveFar.j3, if_pos rfl]
        rfl
      · have niy : ¬ (i : Int) = (y : Int) := by omega
        have q2 : oneF y (big 2000 B) i = [(i : Int)] := by unfold oneF; rw [if_neg hy]
        have q3 : twoF x y (big 1000 A) (big 2000 B) i = [(i : Int)] := by unfold twoF; rw [if_neg hx, if_neg hy]
        rw [q2, q3] at nx
        refine Ev.step (fun k => ?_) nx
        rw [emendationlaw05_WeaveFar.j3, if_neg niy, ww.out]
        simp only [Option.bind_some, List.length_singleton, if_pos c3, if_pos c4, if_neg nix]
    refine Ev.step (fun k => ?_) hj
    rw [emendationlaw05_WeaveFar.l0, if_pos z1]
    simp only [Option.bind_some, List.length_singleton, if_pos c1, if_pos c2, if_neg nix]
    rfl
theorem far_end (A B : List Int) (n x y : Nat) (hA : A.length ≤ 9) (hB : B.length ≤ 9) (hn : n ≤ 100) (hxy : x + 2 ≤ y) (hyn : y < n) (wA : ∀ v ∈ A, (Lit.int .u8 v).wf = true) : Ev (fun k => st A B n x y k n) true := by
  have e1 : ∀ j, (plainF j).length ≤ 9 := fun j => by simp [plainF]
  have e2 : ∀ j, (oneF x (big 1000 A) j).length ≤ 9 := fun j => by unfold oneF; split <;> simp [big_length]; omega
  have e3 : ∀ j, (oneF y (big 2000 B) j).length ≤ 9 := fun j => by unfold oneF; split <;> simp [big_length]; omega
  have e4 : ∀ j, (twoF x y (big 1000 A) (big 2000 B) j).length ≤ 9 := fun j => by unfold twoF; split <;> (try split) <;> simp [big_length] <;> omega
  have g1 := put_length plainF 9 e1 n
  have g2 := put_length _ 9 e2 n
  have g3 := put_length _ 9 e3 n
  have g4 := put_length _ 9 e4 n
  clear e1 e2 e3 e4
  have hm := far_merge n x y (big 1000 A) (big 2000 B) hxy hyn (by omega) (big_ge A wA)
  have m1 := Merge_ev (put plainF n) (put (oneF x (big 1000 A)) n) (put (oneF y (big 2000 B)) n) (by omega) (by omega) (by omega)
  have s1 := Same3_ev (put (twoF x y (big 1000 A) (big 2000 B)) n) (put (twoF x y (big 1000 A) (big 2000 B)) n) (by omega)
  rw [beq_self_eq_true] at s1
  have em : mres (put plainF n) (put (oneF x (big 1000 A)) n) (put (oneF y (big 2000 B)) n) = (put (twoF x y (big 1000 A) (big 2000 B)) n, true) := by unfold mres; rw [hm]
  rw [em] at m1
  have z : ¬ (n : Int) < (n : Int) := by omega
  obtain ⟨K1, m1⟩ := m1
  obtain ⟨K2, s1⟩ := s1
  refine ⟨K1 + K2 + 1, fun k hk => ?_⟩
  obtain ⟨q, rfl⟩ : ∃ q, k = q + 1 := ⟨k - 1, by omega⟩
  have n1 : weave_Merge.f q (put plainF n) (put (oneF x (big 1000 A)) n) (put (oneF y (big 2000 B)) n) = some _ := m1 q (by omega)
  have n2 : emendationref03_Same.f q (put (twoF x y (big 1000 A) (big 2000 B)) n) (put (twoF x y (big 1000 A) (big 2000 B)) n) = some true := s1 q (by omega)
  show emendationlaw05_WeaveFar.l0 (q + 1) _ _ _ _ _ _ _ _ _ _ = some true
  rw [emendationlaw05_WeaveFar.l0, if_neg z]
  simp only [n1, n2, Option.bind_some, reduceIte]
theorem far_all (A B : List Int) (n x y : Nat) (hA : A.length ≤ 9) (hB : B.length ≤ 9) (hn : n ≤ 100) (hxy : x + 2 ≤ y) (hyn : y < n) (wA : ∀ v ∈ A, (Lit.int .u8 v).wf = true) (d : Nat) : ∀ i, i + d = n → Ev (fun k => st A B n x y k i) true := by
  induction d with
  | zero => intro i hi; have : i = n := by omega
            subst this; exact far_end A B i x y hA hB hn hxy hyn wA
  | succ d ih => intro i hi; exact far_step A B n x y i hA hB hn (by omega) (by omega) (ih (i + 1) (by omega))
theorem far_num (a b c : Int) (ha : 0 ≤ a ∧ a ≤ 255) (hb : 0 ≤ b ∧ b ≤ 255) (hc : 0 ≤ c ∧ c ≤ 255) :
    ∃ n x y : Nat, n ≤ 100 ∧ 3 ≤ n ∧ x < n ∧ y < n ∧ wrap64 (3 + Int.tmod (wrap64 a) 30) = (n : Int) ∧ Int.tmod (wrap64 b) (n : Int) = (x : Int) ∧ Int.tmod (wrap64 c) (n : Int) = (y : Int) := by
  obtain ⟨a', rfl⟩ := Int.eq_ofNat_of_zero_le ha.1
  obtain ⟨b', rfl⟩ := Int.eq_ofNat_of_zero_le hb.1
  obtain ⟨c', rfl⟩ := Int.eq_ofNat_of_zero_le hc.1
  have ha2 : a' ≤ 255 := by omega
  have hb2 : b' ≤ 255 := by omega
  have hc2 : c' ≤ 255 := by omega
  have ht : ∀ u v : Nat, Int.tmod (u : Int) (v : Int) = ((u % v : Nat) : Int) := fun u v => rfl
  have h30 : Int.tmod (a' : Int) 30 = ((a' % 30 : Nat) : Int) := rfl
  have hlt : a' % 30 < 30 := Nat.mod_lt _ (by omega)
  have w1 : wrap64 (a' : Int) = (a' : Int) := wnat (by omega)
  have w2 : wrap64 (b' : Int) = (b' : Int) := wnat (by clear w1; omega)
  have w3 : wrap64 (c' : Int) = (c' : Int) := wnat (by clear w1 w2; omega)
  refine ⟨3 + a' % 30, b' % (3 + a' % 30), c' % (3 + a' % 30), by clear w1 w2 w3; omega, by clear w1 w2 w3; omega, Nat.mod_lt _ (by clear w1 w2 w3; omega), Nat.mod_lt _ (by clear w1 w2 w3; omega), ?_, ?_, ?_⟩
  · rw [w1, h30]
    exact wsum 3 (a' % 30) (by clear w1 w2 w3; omega)
  · rw [w2, ht]
  · rw [w3, ht]
theorem WeaveFar : emendationlaw05_WeaveFar.Pure := by
  intro a b c A B ha hb hc _ _ wA _ _ _
  refine Ev.rounds (Ev.bind awake_ev ?_)
  have haw : Ev (fun k => emendationlaw05_WeaveFar.j0 k a b c A B true) true := Ev.step (fun _ => rfl) (Ev.bind awake_ev (Ev.now true))
  by_cases h1 : (A.length : Int) > 9
  · refine Ev.congr (fun k => ?_) haw
    rw [if_pos rfl, if_pos h1]
  · by_cases h2 : (B.length : Int) > 9
    · refine Ev.congr (fun k => ?_) haw
      rw [if_pos rfl, if_neg h1, decide_eq_true h2]
    · refine Ev.congr (f := fun k => emendationlaw05_WeaveFar.j0 k a b c A B false) (fun k => ?_) ?_
      · rw [if_pos rfl, if_neg h1, decide_eq_false h2]
      obtain ⟨n, x, y, hn, hn3, hx, hy, e1, e2, e3⟩ := far_num a b c (byte_wf ha) (byte_wf hb) (byte_wf hc)
      have z0 : ¬ (n : Int) = 0 := by clear e1 e2 e3; omega
      have w : wrap64 ((y : Int) - 2) = (y : Int) - 2 := wrap_in (by clear e1 e2 e3; omega) (by clear e1 e2 e3; omega)
      by_cases h3 : (x : Int) > (y : Int) - 2
      · refine ⟨1, fun k hk => ?_⟩
        obtain ⟨q, rfl⟩ : ∃ q, k = q + 1 := ⟨k - 1, (Nat.sub_add_cancel hk).symm⟩
        show emendationlaw05_WeaveFar.j0 (q + 1) a b c A B false = some true
        rw [emendationlaw05_WeaveFar.j0, if_neg Bool.false_ne_true, e1, e2, e3, if_neg z0, w, if_pos h3]
      · have hl := far_all A B n x y (by clear e1 e2 e3 w; omega) (by clear e1 e2 e3 w; omega) hn (by clear e1 e2 e3 w; omega) hy wA n 0 (Nat.zero_add _)
        refine Ev.step (fun k => ?_) hl
        rw [emendationlaw05_WeaveFar.j0, if_neg Bool.false_ne_true, e1, e2, e3, if_neg z0, w, if_neg h3]
        rfl
end Go.Proofs.Ytlkgdfeeepiidaa.Pure
