/- The kit's contracts for functions of Go's library at this program, as the kit's lay-shelf.mjs and lay-plain.mjs write them (slices_Sort_string, slices_Sort_string_none, slices_Compact_string_cells, slices_Compact_string, slices_Compact_string_empty). · token.Ids: slices.Sort and slices.Compact of texts that the call made itself, as rows. · token.Ids: slices.Grow of nothing, slices.Concat of lists of texts. -/
import Derived.Shelf.Sort.Plain
import Derived.Shelf.Slices.CompactS
import Derived.Shelf.Slices.Cells
import Derived.Shelf.Slices.In.SortNone
import Derived.Test.YtlkgdfeeepiidaaProg
import Derived.Test.YtlkgdfeeepiidaaF0
namespace Go.Proofs.Ytlkgdfeeepiidaa.Sh
open Go.Proofs Go.Shelf
def lays190_ren : Go.Shelf.Ren := ⟨fun | 190 => 86 | 125 => 104 | 258 => 103 | 128 => 119 | 129 => 120 | 302 => 111 | 303 => 112 | 304 => 113 | 305 => 114 | 306 => 115 | 307 => 116 | 308 => 105 | 309 => 117 | 310 => 118 | 333 => 128 | 329 => 129 | 330 => 130 | 334 => 131 | 335 => 132 | 336 => 121 | 344 => 136 | n => n, fun | 31 => 24 | 9 => 9 | 3 => 3 | 46 => 53 | 0 => 0 | 51 => 153 | 53 => 155 | 4 => 4 | 183 => 147 | 182 => 146 | 131 => 121 | 5 => 5 | 218 => 161 | 222 => 165 | 228 => 171 | 229 => 172 | n => n, fun | n => n⟩
theorem lays190 : Go.Proofs.Lays.n190 Try.prog lays190_ren := {
  mixed := by kernel_rfl
  f125 := Try.func104.trans (congrArg some (by kernel_rfl))
  f128 := Try.func119.trans (congrArg some (by kernel_rfl))
  f129 := Try.func120.trans (congrArg some (by kernel_rfl))
  f190 := Try.func86.trans (congrArg some (by kernel_rfl))
  f258 := Try.func103.trans (congrArg some (by kernel_rfl))
  f302 := Try.func111.trans (congrArg some (by kernel_rfl))
  f303 := Try.func112.trans (congrArg some (by kernel_rfl))
  f304 := Try.func113.trans (congrArg some (by kernel_rfl))
  f305 := Try.func114.trans (congrArg some (by kernel_rfl))
  f306 := Try.func115.trans (congrArg some (by kernel_rfl))
  f307 := Try.func116.trans (congrArg some (by kernel_rfl))
  f308 := Try.func105.trans (congrArg some (by kernel_rfl))
  f309 := Try.func117.trans (congrArg some (by kernel_rfl))
  f310 := Try.func118.trans (congrArg some (by kernel_rfl))
  f329 := Try.func129.trans (congrArg some (by kernel_rfl))
  f330 := Try.func130.trans (congrArg some (by kernel_rfl))
  f333 := Try.func128.trans (congrArg some (by kernel_rfl))
  f334 := Try.func131.trans (congrArg some (by kernel_rfl))
  f335 := Try.func132.trans (congrArg some (by kernel_rfl))
  f336 := Try.func121.trans (congrArg some (by kernel_rfl))
  f344 := Try.func136.trans (congrArg some (by kernel_rfl))
  t0 := Try.underlying0
  a0 := Try.isAgg0
  z0 := Try.sizeOf0
  v0 := Try.zeroValue0
  t3 := Try.underlying3
  a3 := Try.isAgg3
  z3 := Try.sizeOf3
  v3 := Try.zeroValue3
  t4 := Try.underlying4
  a4 := Try.isAgg4
  z4 := Try.sizeOf4
  v4 := Try.zeroValue4
  t5 := Try.underlying5
  a5 := Try.isAgg5
  z5 := Try.sizeOf5
  v5 := Try.zeroValue5
  t9 := Try.underlying9
  a9 := Try.isAgg9
  z9 := Try.sizeOf9
  v9 := Try.zeroValue9
  t31 := Try.underlying24
  a31 := Try.isAgg24
  z31 := Try.sizeOf24
  v31 := Try.zeroValue24
  t46 := Try.underlying53
  a46 := Try.isAgg53
  z46 := Try.sizeOf53
  v46 := Try.zeroValue53
  t51 := Try.underlying153
  a51 := Try.isAgg153
  z51 := Try.sizeOf153
  v51 := Try.zeroValue153
  t53 := Try.underlying155
  a53 := Try.isAgg155
  z53 := Try.sizeOf155
  v53 := Try.zeroValue155
  t131 := Try.underlying121
  a131 := Try.isAgg121
  z131 := Try.sizeOf121
  v131 := Try.zeroValue121
  t182 := Try.underlying146
  a182 := Try.isAgg146
  z182 := Try.sizeOf146
  v182 := Try.zeroValue146
  t183 := Try.underlying147
  a183 := Try.isAgg147
  z183 := Try.sizeOf147
  v183 := Try.zeroValue147
  t218 := Try.underlying161
  a218 := Try.isAgg161
  z218 := Try.sizeOf161
  v218 := Try.zeroValue161
  t222 := Try.underlying165
  a222 := Try.isAgg165
  z222 := Try.sizeOf165
  v222 := Try.zeroValue165
  t228 := Try.underlying171
  a228 := Try.isAgg171
  z228 := Try.sizeOf171
  v228 := Try.zeroValue171
  t229 := Try.underlying172
  a229 := Try.isAgg172
  z229 := Try.sizeOf172
  v229 := Try.zeroValue172 }
open Go.Sort Go.RowKit in
theorem slices_Sort_string (blk off cap : Nat) (ss : List (List UInt8)) (w : World) (hH : Holds encStr w blk off ss.toArray) (hblk : blk < w.heap.size) (hsz : ss.length < 4611686018427387904) :
    Calls Try.prog 86 #[.slice (some ⟨blk, off, none⟩) ss.length cap] w fun e w' =>
      e = .returned (.tuple #[]) ∧ ∃ n os, w' = grow (putRow encStr (Sort.ahead w n) blk off (ss.mergeSort fun x y => decide (x ≤ y)).toArray) os := Any.slices_Sort_string lays190 blk off cap ss w hH hblk hsz
def lays194_ren : Go.Shelf.Ren := ⟨fun | 194 => 87 | n => n, fun | 31 => 24 | 9 => 9 | 3 => 3 | 4 => 4 | 0 => 0 | n => n, fun | n => n⟩
theorem lays194 : Go.Proofs.Lays.n194 Try.prog lays194_ren := {
  mixed := by kernel_rfl
  f194 := Try.func87.trans (congrArg some (by kernel_rfl))
  t0 := Try.underlying0
  a0 := Try.isAgg0
  z0 := Try.sizeOf0
  v0 := Try.zeroValue0
  t3 := Try.underlying3
  a3 := Try.isAgg3
  z3 := Try.sizeOf3
  v3 := Try.zeroValue3
  t4 := Try.underlying4
  a4 := Try.isAgg4
  z4 := Try.sizeOf4
  v4 := Try.zeroValue4
  t9 := Try.underlying9
  a9 := Try.isAgg9
  z9 := Try.sizeOf9
  v9 := Try.zeroValue9
  t31 := Try.underlying24
  a31 := Try.isAgg24
  z31 := Try.sizeOf24
  v31 := Try.zeroValue24 }
open Go.RowKit Go.Lib Go.Sort in
theorem slices_Compact_string (blk off cap : Nat) (zs : List (List UInt8)) (w : World) (hH : Holds encStr w blk off zs.toArray) (hsz : zs.length ≤ 9223372036854775807) (hcap : zs.length ≤ cap) :
    Calls Try.prog 87 #[.slice (some ⟨blk, off, none⟩) zs.length cap] w fun e w' => e = .returned (.slice (some ⟨blk, off, none⟩) (Lib.compact zs).length cap) ∧ ∃ q, w' = putRow encStr (Sort.ahead w q) blk off (Lib.compact zs ++ List.replicate (zs.length - (Lib.compact zs).length) []).toArray := Any.slices_Compact_string lays194 blk off cap zs w hH hsz hcap
open Go.RowKit Go.Lib Go.Sort in
theorem slices_Compact_string_empty (a : Option Addr) (cap : Nat) (w : World) :
    Calls Try.prog 87 #[.slice a 0 cap] w fun e w' => e = .returned (.slice a 0 cap) ∧ w' = w := Any.slices_Compact_string_empty lays194 a cap w
open Go.RowKit Go.Lib Go.Sort in
theorem slices_Compact_string_cells (b off n c : Nat) (Sx : Nat → ByteArray) (w : World) (hbig : n ≤ 9223372036854775807) (hcap : n ≤ c) (hc : ∀ i, i < n → w.cell? ⟨b, off + i, none⟩ = some (.string (Sx i))) (hf : ∀ j, j < n → w.frozen? ⟨b, off + j, none⟩ = false) :
    Calls Try.prog 87 #[.slice (some ⟨b, off, none⟩) n c] w fun e w' => e = .returned (.slice (some ⟨b, off, none⟩) (Lib.compact (Lib.strsOf Sx n)).length c) ∧ ∃ q, w' = (w.drewN q).setCells b off ((Lib.compact (Lib.strsOf Sx n) ++ List.replicate (n - (Lib.compact (Lib.strsOf Sx n)).length) []).map encStr) := Any.slices_Compact_string_cells lays194 b off n c Sx w hbig hcap hc hf
open Go.RowKit Go.Sort in
theorem slices_Sort_string_none (p : Option Addr) (cap : Nat) (w : World) :
    Calls Try.prog 86 #[.slice p 0 cap] w fun e w' => e = .returned (.tuple #[]) ∧ w' = w := Any.slices_Sort_string_none lays190 p cap w
end Go.Proofs.Ytlkgdfeeepiidaa.Sh
namespace Go.Proofs.Ytlkgdfeeepiidaa.XIds
open Go.RowKit Go.Proofs.Ytlkgdfeeepiidaa Go.Proofs.Ytlkgdfeeepiidaa.All Go.Proofs.YtlkgdfeeepiidaaW.PrintWords Go.Proofs.YtlkgdfeeepiidaaW.PrintLast Go.Proofs.YtlkgdfeeepiidaaW.PrintMore
set_option linter.unusedVariables false
set_option linter.unusedSimpArgs false
/-- A text's bytes. -/
def toL (s : ByteArray) : List UInt8 := s.data.toList
def ofL (l : List UInt8) : ByteArray := ⟨l.toArray⟩
/-- In order. -/
def sortB (l : List ByteArray) : List ByteArray := ((l.map toL).mergeSort fun x y => decide (x ≤ y)).map ofL
/-- Each text once, where the same ones stand together. -/
def compB (l : List ByteArray) : List ByteArray := (Lib.compact (l.map toL)).map ofL
theorem sortB_length (l : List ByteArray) : (sortB l).length = l.length := by simp [sortB]
theorem own_put {w W : World} {base g n cap m : Nat} {xs : List Value} (h : w.ownsRow base 9 1 (.slice (some ⟨g, 0, none⟩) n cap) n xs) (d : Array (List UInt8)) (hd : d.size = n) (hm : m ≤ n)
    (hW : W.heap[g]? = (w.heap[g]?).map (Go.Sort.onCells (Go.Sort.putCells Go.Proofs.encStr 0 d))) : W.ownsRow base 9 1 (.slice (some ⟨g, 0, none⟩) m cap) m (encs Value.string ((d.toList.take m).map ofL)) := by
  obtain ⟨hl, h⟩ := h
  rcases h with ⟨h, _⟩ | ⟨g', cap', cur, he, hb, hc, h1, h2, h3, h4⟩
  · cases h
  · injection he with he1 he2 he3
    injection he1 with he1
    injection he1 with he1
    subst he1; subst he3
    rw [hc, Option.map_some] at hW
    have hlen : (encs Value.string ((d.toList.take m).map ofL)).length = m * 1 := by rw [encs_length]; simp; omega
    refine ⟨hlen, .inr ⟨g, cap, Go.Sort.putCells Go.Proofs.encStr 0 d cur, rfl, hb, hW, by omega, h2, by simp [Go.Sort.putCells]; omega, ?_⟩⟩
    apply List.ext_getElem
    · rw [hlen]; simp [Go.Sort.putCells]; omega
    · intro i hi1 hi2
      rw [hlen] at hi2
      have hid : i < d.size := by omega
      simp only [Go.Sort.putCells, List.getElem_take, Array.getElem_toList, Array.getElem_mapIdx, encs, List.getElem_map]
      rw [if_pos ⟨Nat.zero_le _, by omega⟩, Nat.sub_zero, getElem!_pos d i hid]
      rfl
theorem holds_of {w : World} {base g n cap : Nat} {ok : Nat → Prop} {xs : List ByteArray} (h : Kd.R Kd.string 9 w base ok (.slice (some ⟨g, 0, none⟩) n cap) xs) : Go.Sort.Holds Go.Proofs.encStr w g 0 (xs.map toL).toArray := by
  intro j hj
  have hn := (Kd.R_reads' h).1
  simp at hj
  have hc := Kd.R_celln ByteArray.empty h (j : Int) (by omega) (by omega)
  rw [Int.toNat_natCast] at hc
  have e : (⟨g, 0 + j, none⟩ : Addr) = ⟨g, j, none⟩ := by rw [Nat.zero_add]
  rw [e]
  refine ⟨hc.1.trans ?_, hc.2⟩
  have : rdOf ByteArray.empty xs (j : Int) = xs[j] := by unfold rdOf; simp [hj]
  rw [this, getElem!_pos _ j (by simpa using hj)]
  simp only [List.getElem_toArray, List.getElem_map]
  rfl
theorem grown_put {w : World} (g : Nat) (q : Nat) (d : Array (List UInt8)) (os : Array Obj) : w.grownBy (Go.Sort.grow (Go.Sort.putRow Go.Proofs.encStr (Go.Sort.ahead w q) g 0 d) os) (some g) := by
  refine ⟨rfl, rfl, rfl, ?_, ?_⟩
  · simp [Go.Sort.grow, Go.Sort.putRow, Go.Sort.mapBlock, Go.Sort.ahead]
  · intro k hk hne
    have hkg : g ≠ k := fun h => hne (by rw [h])
    simp only [Go.Sort.grow, Go.Sort.putRow, Go.Sort.mapBlock, Go.Sort.ahead]
    rw [Array.getElem?_append_left (by simpa using hk), Array.getElem?_modify, if_neg hkg]
theorem block_put {w : World} (g : Nat) (q : Nat) (d : Array (List UInt8)) (os : Array Obj) (hg : g < w.heap.size) : (Go.Sort.grow (Go.Sort.putRow Go.Proofs.encStr (Go.Sort.ahead w q) g 0 d) os).heap[g]? = (w.heap[g]?).map (Go.Sort.onCells (Go.Sort.putCells Go.Proofs.encStr 0 d)) := by
  simp only [Go.Sort.grow, Go.Sort.putRow, Go.Sort.mapBlock, Go.Sort.ahead]
  rw [Array.getElem?_append_left (by simpa using hg), Array.getElem?_modify, if_pos rfl]
theorem grow_none (w : World) : Go.Sort.grow w #[] = w := by unfold Go.Sort.grow; simp
theorem sort_row (A : Option Addr) (c : Nat) (xs : List ByteArray) (w0 w : World) (base : Nat) (ok : Nat → Prop) (HO : Kd.R Kd.string 9 w base ok (.slice A xs.length c) xs) (HB : Below base w0 w) (hl : xs.length < 4611686018427387904) :
    Calls Try.prog 86 #[.slice A xs.length c] w fun e w' => e = .returned (.tuple #[]) ∧ Kd.R Kd.string 9 w' base ok (.slice A xs.length c) (sortB xs) ∧ Below base w0 w' := by
  by_cases h0 : 0 < xs.length
  · obtain ⟨g, cap, he, hb, hg, _⟩ := Kd.R_form HO h0
    injection he with he1 he2 he3
    subst he1; subst he3
    have hs := Sh.slices_Sort_string g 0 c (xs.map toL) w (holds_of HO) hg (by rw [List.length_map]; exact hl)
    rw [List.length_map] at hs
    refine hs.mono ?_
    rintro e w' ⟨rfl, n, os, rfl⟩
    have hown := Kd.own_of_R HO
    have hp := own_put hown ((xs.map toL).mergeSort fun x y => decide (x ≤ y)).toArray (by simp) (Nat.le_refl _) (block_put g n _ os hg)
    rw [List.take_of_length_le (by simp)] at hp
    refine ⟨rfl, ?_, HB.grown (grown_put g n _ os) (Nat.le_trans hb (Nat.le_of_lt hg)) (fun k hk => by injection hk with hk; omega)⟩
    refine Kd.R_of_own ?_ HO.1
    rw [sortB_length]
    exact hp
  · have hx : xs = [] := List.length_eq_zero_iff.1 (by omega)
    subst hx
    refine (Sh.slices_Sort_string_none A c w).mono ?_
    rintro e w' ⟨rfl, rfl⟩
    refine ⟨rfl, ?_, HB⟩
    have : sortB [] = [] := by simp [sortB]
    rw [this]
    exact HO
theorem compact_le (zs : List (List UInt8)) : (Lib.compact zs).length ≤ zs.length := by
  unfold Lib.compact Lib.compactUpTo
  rw [List.length_map]
  have := List.length_filter_le (Lib.keeps zs.toArray) (List.range zs.length)
  simpa using this
theorem compact_row (A : Option Addr) (c : Nat) (xs : List ByteArray) (n : Nat) (hn : n = xs.length) (w0 w : World) (base : Nat) (ok : Nat → Prop) (HO : Kd.R Kd.string 9 w base ok (.slice A n c) xs) (HB : Below base w0 w) (hl : xs.length < 4611686018427387904) :
    Calls Try.prog 87 #[.slice A n c] w fun e w' => ∃ v : Value, e = .returned v ∧ Kd.R Kd.string 9 w' base ok v (compB xs) ∧ Below base w0 w' := by
  subst hn
  by_cases h0 : 0 < xs.length
  · obtain ⟨g, cap, he, hb, hg, _⟩ := Kd.R_form HO h0
    injection he with he1 he2 he3
    subst he1; subst he3
    have hcap := (Kd.R_reads' HO).2.1
    have hs := Sh.slices_Compact_string g 0 c (xs.map toL) w (holds_of HO) (by rw [List.length_map]; omega) (by rw [List.length_map]; exact hcap)
    rw [List.length_map] at hs
    refine hs.mono ?_
    rintro e w' ⟨rfl, q, rfl⟩
    have hle := compact_le (xs.map toL)
    rw [List.length_map] at hle
    have hown := Kd.own_of_R HO
    have hbl := block_put (w := w) g q ((Lib.compact (xs.map toL) ++ List.replicate (xs.length - (Lib.compact (xs.map toL)).length) []).toArray) #[] hg
    have hgr := grown_put (w := w) g q ((Lib.compact (xs.map toL) ++ List.replicate (xs.length - (Lib.compact (xs.map toL)).length) []).toArray) #[]
    rw [grow_none] at hbl hgr
    have hp := own_put hown _ (by simp; omega) hle hbl
    have e1 : ((Lib.compact (xs.map toL) ++ List.replicate (xs.length - (Lib.compact (xs.map toL)).length) []).toArray.toList.take (Lib.compact (xs.map toL)).length).map ofL = compB xs := by
      show ((Lib.compact (xs.map toL) ++ List.replicate _ []).take _).map ofL = _
      rw [List.take_left']
      · rfl
      · rfl
    rw [e1] at hp
    refine ⟨_, rfl, ?_, HB.grown hgr (Nat.le_trans hb (Nat.le_of_lt hg)) (fun k hk => by injection hk with hk; omega)⟩
    refine Kd.R_of_own ?_ HO.1
    have e2 : (compB xs).length = (Lib.compact (xs.map toL)).length := by unfold compB; rw [List.length_map]
    rw [e2]
    exact hp
  · have hx : xs = [] := List.length_eq_zero_iff.1 (by omega)
    subst hx
    refine (Sh.slices_Compact_string_empty A c w).mono ?_
    rintro e w' ⟨rfl, rfl⟩
    refine ⟨_, rfl, ?_, HB⟩
    have : compB [] = [] := by simp [compB, Lib.compact, Lib.compactUpTo]
    rw [this]
    exact HO
end Go.Proofs.Ytlkgdfeeepiidaa.XIds
namespace Go.Proofs.Ytlkgdfeeepiidaa.XIds
open Go.RowKit Go.Proofs.Ytlkgdfeeepiidaa Go.Proofs.Ytlkgdfeeepiidaa.All Go.Proofs.YtlkgdfeeepiidaaW.PrintWords Go.Proofs.YtlkgdfeeepiidaaW.PrintLast Go.Proofs.YtlkgdfeeepiidaaW.PrintMore
set_option linter.unusedVariables false
set_option linter.unusedSimpArgs false
theorem grow_nil (n : Nat) (hn : n ≤ 1000000) (w : World) :
    Calls Try.prog 93 #[.slice none 0 0, .int .i64 (n : Int)] w fun e w' => ∃ v : Value, e = .returned v ∧ Kd.R Kd.string 9 w' w.heap.size (fun _ => True) v [] ∧ Below w.heap.size w w' := by
  by_cases h0 : n = 0
  · subst h0
    go_enter Try.func93, Try.ntmps93
    go_wp2
    go_ret
    exact ⟨_, rfl, Kd.R_nil _ _ _ _ _, Below.refl _ _⟩
  · have hpos : decide ((0 : Int) < (n : Int)) = true := decide_eq_true (by omega)
    have hposN : decide (0 < n) = true := decide_eq_true (by omega)
    have hneg : decide ((n : Int) < 0) = false := decide_eq_false (by omega)
    go_enter Try.func93, Try.ntmps93
    go_wp2_with (first | ((with_reducible refine gate_builtin (b := .append) (xs := #[.tmp 20, .tmp 21]) rfl ?_); at_builtin; (refine Kd.R_append_zeros Kd.string (w0 := w) w.heap.size rfl (.tmp 20) (.tmp 21) 24 3 9 (.string ⟨#[]⟩) 16 rfl Try.underlying24 Try.underlying3 info9 rfl (by decide) (by omega) (.slice none 0 0) [] (⟨#[]⟩ : ByteArray) (n : Int) (fun _ => True) rfl rfl rfl (fun _ _ => trivial) (Kd.R_nil _ _ _ _ _) (by omega) (Below.refl _ _) (Nat.le_refl _) (by simp only [List.length_nil]; omega) ?_); (intro v1 w1 ho hb hg hat); (rw [List.nil_append, Int.toNat_natCast] at ho); (have HO := Aside0.mk ho); (have HB := Aside0.mk hb); (have hl1 : 0 < (List.replicate n (⟨#[]⟩ : ByteArray)).length := (by rw [List.length_replicate]; exact Nat.pos_of_ne_zero h0)); (obtain ⟨g, cap, ev, _, _, _⟩ := Kd.R_form ho hl1); (subst ev); (have hcap := (Kd.R_reads' ho).2.1); (rw [List.length_replicate] at hcap); (have hc2 : (0 : Int) ≤ (cap : Int) := (by omega)); (clear ho hb hg hat hl1)))
    go_ret
    refine ⟨_, rfl, ?_, HB.out⟩
    have h := Kd.R_take (m := 0) HO.out (Nat.zero_le _)
    rw [List.take_zero] at h
    exact h
end Go.Proofs.Ytlkgdfeeepiidaa.XIds
namespace Go.Proofs.Ytlkgdfeeepiidaa.All
open Go.RowKit Go.Proofs.Ytlkgdfeeepiidaa Go.Proofs.Ytlkgdfeeepiidaa.XIds Go.Proofs.YtlkgdfeeepiidaaW.PrintWords Go.Proofs.YtlkgdfeeepiidaaW.PrintLast Go.Proofs.YtlkgdfeeepiidaaW.PrintMore
set_option linter.unusedVariables false
set_option linter.unusedSimpArgs false
def slices_Concat_string_string.f (l : List (List ByteArray)) : Option (List ByteArray) := if l.length ≤ 1000000 ∧ l.flatten.length ≤ 1000000 then some l.flatten else none
theorem flat_succ (l : List (List ByteArray)) (i : Nat) (h : i < l.length) : (l.take (i + 1)).flatten = (l.take i).flatten ++ l[i] := by
  rw [List.take_succ_eq_append_getElem h, List.flatten_append]; simp
def lenTo (l : List (List ByteArray)) (i : Nat) : Nat := (l.take i).flatten.length
theorem flat_le (l : List (List ByteArray)) (i : Nat) : (l.take i).flatten.length ≤ l.flatten.length := by
  have h : l.flatten = (l.take i).flatten ++ (l.drop i).flatten := by rw [← List.flatten_append, List.take_append_drop]
  rw [h, List.length_append]; omega
set_option maxHeartbeats 1600000 in
set_option maxRecDepth 100000 in
theorem slices_Concat_string_string.calls (A0 : Option Addr) (c0 : Nat) (l0 : List (List ByteArray)) (r : List ByteArray) (w : World) (hr0 : Kd.C (Kd.slice 9 Kd.string) w A0 l0.length l0) (hc0 : l0.length ≤ c0) (h : slices_Concat_string_string.f l0 = some r) :
    Calls Try.prog 70 #[.slice A0 l0.length c0] w fun e w' => ∃ v0_ : Value, e = .returned v0_ ∧ Kd.R Kd.string 9 w' w.heap.size (fun _ => True) v0_ r ∧ Below w.heap.size w w' := by
  unfold slices_Concat_string_string.f at h
  split at h
  · rename_i hb
    obtain ⟨n1, n2⟩ := hb
    obtain rfl := Option.some.inj h
    have HR0 := Aside0.mk hr0
    clear hr0 h
    have hfl := Aside0.mk (fun i => flat_le l0 i)
    have GR := Aside0.mk (grow_nil (lenTo l0 l0.length) (by unfold lenTo; rw [List.take_length]; exact n2))
    go_enter Try.func70, Try.ntmps70
    go_wp2
    go_loopw [3, 11] (fun v3 v11 wr => ∃ i : Nat, v3 = .int .i64 (lenTo l0 i : Int) ∧ v11 = .int .i64 (i : Int) ∧ Aside0 (i ≤ l0.length) ∧ wr = w) (fun _ v _ => ((l0.length : Int) - intOf v).toNat)
    case atStart => exact ⟨0, by simp [lenTo], rfl, ⟨Nat.zero_le _⟩, by first | rfl | trivial⟩
    case round =>
      obtain ⟨i, rfl, rfl, HI, hw⟩ := hrel
      obtain rfl : w = wr := hw.symm
      clear hw
      have hi := HI.out
      by_cases hlt : i < l0.length
      · have hb : decide ((i : Int) < (l0.length : Int)) = true := decide_eq_true (by omega)
        have p2 : ((i : Int) < (l0.length : Int)) = True := eq_true (by omega)
        have p3 : (i < l0.length) = True := eq_true hlt
        obtain ⟨ad, Ai, ci, eA, hx, hcl, hC⟩ := at_L6 HR0.out (i : Int) (by omega) (by omega)
        cases eA
        rw [Int.toNat_natCast] at hx
        have hli : rd_L6 l0 (i : Int) = l0[i] := by unfold rd_L6; simp [hlt]
        rw [hli] at hx hcl hC
        have hs := flat_succ l0 i hlt
        have hle := hfl.out (i + 1)
        have hE := Aside0.mk (show ((lenTo l0 (i + 1) : Nat) : Int) = (lenTo l0 i : Int) + ((l0[i]).length : Int) by unfold lenTo; rw [hs, List.length_append, Int.natCast_add])
        have hbd : lenTo l0 i + (l0[i]).length ≤ 1000000 := by unfold lenTo; rw [hs, List.length_append] at hle; omega
        clear hs hle hli hC hcl
        generalize hL : lenTo l0 i = L at *
        generalize hM : (l0[i]).length = M at *
        clear hL hM
        have hnn : decide ((L : Int) + (M : Int) < 0) = false := decide_eq_false (by omega)
        go_wp2
        go_roundw
        case rel => exact ⟨i + 1, by rw [hE.out], by go_num, ⟨by omega⟩, by first | rfl | trivial⟩
        case measure => simp [intOf]; omega
      · have hb : decide ((i : Int) < (l0.length : Int)) = false := decide_eq_false (by omega)
        have hii : i = l0.length := by omega
        subst hii
        clear HI hi
        go_wp2_with (first | (go_at_call 93; refine (GR.out _).mono ?_; rintro e w1 ⟨v1, rfl, ho1, hb1⟩; have HO1 := Aside0.mk ho1; have HB1 := Aside0.mk hb1; clear ho1 hb1))
        go_loopw [6, 27] (fun v6 v27 wr2 => ∃ (i : Nat) (V6 : Value), v6 = V6 ∧ v27 = .int .i64 (i : Int) ∧ Aside0 (i ≤ l0.length) ∧ Aside0 (Kd.R Kd.string 9 wr2 w.heap.size (fun _ => True) V6 (l0.take i).flatten) ∧ Aside0 (Below w.heap.size w wr2)) (fun _ v _ => ((l0.length : Int) - intOf v).toNat)
        case atStart => exact ⟨0, _, rfl, rfl, ⟨Nat.zero_le _⟩, HO1, HB1⟩
        case round =>
          clear HO1 HB1
          obtain ⟨j, V6, hV6, rfl, HJ, HO, HB⟩ := hrel
          replace hV6 := hV6.symm
          subst hV6
          have hj := HJ.out
          by_cases hlt : j < l0.length
          · have hb : decide ((j : Int) < (l0.length : Int)) = true := decide_eq_true (by omega)
            have p2 : ((j : Int) < (l0.length : Int)) = True := eq_true (by omega)
            have p3 : (j < l0.length) = True := eq_true hlt
            obtain ⟨ad, Ai, ci, eA, hx, hcl, hC⟩ := at_L6 HR0.out (j : Int) (by omega) (by omega)
            cases eA
            rw [Int.toNat_natCast] at hx
            have hli : rd_L6 l0 (j : Int) = l0[j] := by unfold rd_L6; simp [hlt]
            rw [hli] at hx hcl hC
            replace hx := pw_cell_below HB.out hx
            have HCj := Aside0.mk hC
            have hs := Aside0.mk (flat_succ l0 j hlt)
            have hle := hfl.out (j + 1)
            have HL := Aside0.mk (show (l0.take j).flatten.length + (l0[j]).length ≤ 1000000 by rw [hs.out, List.length_append] at hle; omega)
            clear hle hli hC
            go_wp2_with (first | ((with_reducible refine gate_builtin (b := .append) (xs := #[.tmp 31, .tmp 32]) rfl ?_); at_builtin; (refine Kd.R_append_row Value.string (⟨#[]⟩ : ByteArray) (h1 := fun _ => rfl) (w0 := w) w.heap.size rfl (.tmp 31) (.tmp 32) 24 9 (.string ⟨#[]⟩) 16 rfl Try.underlying24 info9 rfl (by decide) V6 (l0.take j).flatten l0[j] Ai _ ci (fun _ => True) rfl rfl (fun _ _ => trivial) HO.out (Kd.C_below HCj.out HB.out) HB.out HB.out.size (by have := HL.out; omega) ?_; intro v103 w7 ho hb8 hg hat; have n0_ := Aside0.mk hb8; have n1_ := Aside0.mk ho; clear HO HB ho hb8 hg hat)))
            go_roundw
            case rel => exact ⟨j + 1, _, rfl, by go_num, ⟨by omega⟩, ⟨by rw [hs.out]; exact n1_.out⟩, n0_⟩
            case measure => simp [intOf]; omega
          · have hb : decide ((j : Int) < (l0.length : Int)) = false := decide_eq_false (by omega)
            have hjj : j = l0.length := by omega
            have HO' := HO.out
            have HB' := HB.out
            rw [hjj, List.take_length] at HO'
            clear HJ HO HB
            go_wp2
            go_ret
            exact ⟨_, rfl, HO', HB'⟩
  · cases h
/-- What Sort is asked for (its list stands in Compact's answer). -/
def slices_Sort_string_string.f (l : List ByteArray) : Option Unit := if l.length < 4611686018427387904 then some () else none
/-- Sorted, each text once. -/
def slices_Compact_string_string.f (l : List ByteArray) : Option (List ByteArray) := some (compB (sortB l))
theorem sort_calls (A : Option Addr) (c : Nat) (xs : List ByteArray) (w0 w : World) (base : Nat) (ok : Nat → Prop) (HO : Kd.R Kd.string 9 w base ok (.slice A xs.length c) xs) (HB : Below base w0 w) (h : slices_Sort_string_string.f xs = some ()) :
    Calls Try.prog 86 #[.slice A xs.length c] w fun e w' => e = .returned (.tuple #[]) ∧ Kd.R Kd.string 9 w' base ok (.slice A xs.length c) (sortB xs) ∧ Below base w0 w' := by
  unfold slices_Sort_string_string.f at h
  split at h
  · rename_i hl; exact sort_row A c xs w0 w base ok HO HB hl
  · cases h
theorem compact_calls (A : Option Addr) (c : Nat) (xs r : List ByteArray) (w0 w : World) (base : Nat) (ok : Nat → Prop) (HO : Kd.R Kd.string 9 w base ok (.slice A xs.length c) (sortB xs)) (HB : Below base w0 w) (h1 : slices_Sort_string_string.f xs = some ()) (h : slices_Compact_string_string.f xs = some r) :
    Calls Try.prog 87 #[.slice A xs.length c] w fun e w' => ∃ v : Value, e = .returned v ∧ Kd.R Kd.string 9 w' base ok v r ∧ Below base w0 w' := by
  unfold slices_Sort_string_string.f at h1
  obtain rfl := Option.some.inj h
  split at h1
  · rename_i hl; exact compact_row A c (sortB xs) xs.length (sortB_length xs).symm w0 w base ok HO HB (by rw [sortB_length]; exact hl)
  · cases h1
end Go.Proofs.Ytlkgdfeeepiidaa.All
