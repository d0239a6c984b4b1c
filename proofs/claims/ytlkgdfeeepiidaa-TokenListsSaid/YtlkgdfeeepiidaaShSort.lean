/- The kit's contracts for functions of Go's library at this program, as the kit's lay-shelf.mjs and lay-plain.mjs write them (slices_Sort_string, slices_Sort_string_none, slices_Compact_string_cells, slices_Compact_string, slices_Compact_string_empty). -/
import Derived.Shelf.Sort.Plain
import Derived.Shelf.Slices.CompactS
import Derived.Shelf.Slices.Cells
import Derived.Shelf.Slices.In.SortNone
import Derived.Test.YtlkgdfeeepiidaaProg
namespace Go.Proofs.Ytlkgdfeeepiidaa.Sh
open Go.Proofs Go.Shelf
def lays190_ren : Go.Shelf.Ren := ⟨fun | 190 => 86 | 125 => 104 | 258 => 103 | 128 => 119 | 129 => 120 | 302 => 111 | 303 => 112 | 304 => 113 | 305 => 114 | 306 => 115 | 307 => 116 | 308 => 105 | 309 => 117 | 310 => 118 | 333 => 128 | 329 => 129 | 330 => 130 | 334 => 131 | 335 => 132 | 336 => 121 | 344 => 136 | n => n, fun | 31 => 24 | 9 => 9 | 3 => 3 | 46 => 53 | 0 => 0 | 51 => 153 | 53 => 155 | 4 => 4 | 183 => 147 | 182 => 146 | 131 => 121 | 5 => 5 | 218 => 161 | 222 => 165 | 228 => 171 | 229 => 172 | n => n, fun | n => n⟩
theorem lays190 : Go.Proofs.Lays.n190 Try.prog lays190_ren := {
  mixed := by kernel_rfl
  f125 := Try.func104.trans (congrArg some (by kernel_rfl))
  f128 := Try.func119.trans (congrArg some (by kernel_rfl))
  f129 := Try.func120.trans (congrArg some (by kernel_rfl))
  f190 := Try.func86.trans (congrArg some (by kernel_rfl))
  f258 := Try.func103.trans (congrArg some (by kernel_rfl))
  f302 := Try.func111.trans (congrArg some (by kernel_rfl))
  f303 := Try.func112.trans (congrArg some (by kernel_rfl))
  f304 := Try.func113.trans (congrArg some (by kernel_rfl))
  f305 := Try.func114.trans (congrArg some (by kernel_rfl))
  f306 := Try.func115.trans (congrArg some (by kernel_rfl))
  f307 := Try.func116.trans (congrArg some (by kernel_rfl))
  f308 := Try.func105.trans (congrArg some (by kernel_rfl))
  f309 := Try.func117.trans (congrArg some (by kernel_rfl))
  f310 := Try.func118.trans (congrArg some (by kernel_rfl))
  f329 := Try.func129.trans (congrArg some (by kernel_rfl))
  f330 := Try.func130.trans (congrArg some (by kernel_rfl))
  f333 := Try.func128.trans (congrArg some (by kernel_rfl))
  f334 := Try.func131.trans (congrArg some (by kernel_rfl))
  f335 := Try.func132.trans (congrArg some (by kernel_rfl))
  f336 := Try.func121.trans (congrArg some (by kernel_rfl))
  f344 := Try.func136.trans (congrArg some (by kernel_rfl))
  t0 := Try.underlying0
  a0 := Try.isAgg0
  z0 := Try.sizeOf0
  v0 := Try.zeroValue0
  t3 := Try.underlying3
  a3 := Try.isAgg3
  z3 := Try.sizeOf3
  v3 := Try.zeroValue3
  t4 := Try.underlying4
  a4 := Try.isAgg4
  z4 := Try.sizeOf4
  v4 := Try.zeroValue4
  t5 := Try.underlying5
  a5 := Try.isAgg5
  z5 := Try.sizeOf5
  v5 := Try.zeroValue5
  t9 := Try.underlying9
  a9 := Try.isAgg9
  z9 := Try.sizeOf9
  v9 := Try.zeroValue9
  t31 := Try.underlying24
  a31 := Try.isAgg24
  z31 := Try.sizeOf24
  v31 := Try.zeroValue24
  t46 := Try.underlying53
  a46 := Try.isAgg53
  z46 := Try.sizeOf53
  v46 := Try.zeroValue53
  t51 := Try.underlying153
  a51 := Try.isAgg153
  z51 := Try.sizeOf153
  v51 := Try.zeroValue153
  t53 := Try.underlying155
  a53 := Try.isAgg155
  z53 := Try.sizeOf155
  v53 := Try.zeroValue155
  t131 := Try.underlying121
  a131 := Try.isAgg121
  z131 := Try.sizeOf121
  v131 := Try.zeroValue121
  t182 := Try.underlying146
  a182 := Try.isAgg146
  z182 := Try.sizeOf146
  v182 := Try.zeroValue146
  t183 := Try.underlying147
  a183 := Try.isAgg147
  z183 := Try.sizeOf147
  v183 := Try.zeroValue147
  t218 := Try.underlying161
  a218 := Try.isAgg161
  z218 := Try.sizeOf161
  v218 := Try.zeroValue161
  t222 := Try.underlying165
  a222 := Try.isAgg165
  z222 := Try.sizeOf165
  v222 := Try.zeroValue165
  t228 := Try.underlying171
  a228 := Try.isAgg171
  z228 := Try.sizeOf171
  v228 := Try.zeroValue171
  t229 := Try.underlying172
  a229 := Try.isAgg172
  z229 := Try.sizeOf172
  v229 := Try.zeroValue172 }
open Go.Sort Go.RowKit in
theorem slices_Sort_string (blk off cap : Nat) (ss : List (List UInt8)) (w : World) (hH : Holds encStr w blk off ss.toArray) (hblk : blk < w.heap.size) (hsz : ss.length < 4611686018427387904) :
    Calls Try.prog 86 #[.slice (some ⟨blk, off, none⟩) ss.length cap] w fun e w' =>
      e = .returned (.tuple #[]) ∧ ∃ n os, w' = grow (putRow encStr (Sort.ahead w n) blk off (ss.mergeSort fun x y => decide (x ≤ y)).toArray) os := Any.slices_Sort_string lays190 blk off cap ss w hH hblk hsz
def lays194_ren : Go.Shelf.Ren := ⟨fun | 194 => 87 | n => n, fun | 31 => 24 | 9 => 9 | 3 => 3 | 4 => 4 | 0 => 0 | n => n, fun | n => n⟩
theorem lays194 : Go.Proofs.Lays.n194 Try.prog lays194_ren := {
  mixed := by kernel_rfl
  f194 := Try.func87.trans (congrArg some (by kernel_rfl))
  t0 := Try.underlying0
  a0 := Try.isAgg0
  z0 := Try.sizeOf0
  v0 := Try.zeroValue0
  t3 := Try.underlying3
  a3 := Try.isAgg3
  z3 := Try.sizeOf3
  v3 := Try.zeroValue3
  t4 := Try.underlying4
  a4 := Try.isAgg4
  z4 := Try.sizeOf4
  v4 := Try.zeroValue4
  t9 := Try.underlying9
  a9 := Try.isAgg9
  z9 := Try.sizeOf9
  v9 := Try.zeroValue9
  t31 := Try.underlying24
  a31 := Try.isAgg24
  z31 := Try.sizeOf24
  v31 := Try.zeroValue24 }
open Go.RowKit Go.Lib Go.Sort in
theorem slices_Compact_string (blk off cap : Nat) (zs : List (List UInt8)) (w : World) (hH : Holds encStr w blk off zs.toArray) (hsz : zs.length ≤ 9223372036854775807) (hcap : zs.length ≤ cap) :
    Calls Try.prog 87 #[.slice (some ⟨blk, off, none⟩) zs.length cap] w fun e w' => e = .returned (.slice (some ⟨blk, off, none⟩) (Lib.compact zs).length cap) ∧ ∃ q, w' = putRow encStr (Sort.ahead w q) blk off (Lib.compact zs ++ List.replicate (zs.length - (Lib.compact zs).length) []).toArray := Any.slices_Compact_string lays194 blk off cap zs w hH hsz hcap
open Go.RowKit Go.Lib Go.Sort in
theorem slices_Compact_string_empty (a : Option Addr) (cap : Nat) (w : World) :
    Calls Try.prog 87 #[.slice a 0 cap] w fun e w' => e = .returned (.slice a 0 cap) ∧ w' = w := Any.slices_Compact_string_empty lays194 a cap w
open Go.RowKit Go.Lib Go.Sort in
theorem slices_Compact_string_cells (b off n c : Nat) (Sx : Nat → ByteArray) (w : World) (hbig : n ≤ 9223372036854775807) (hcap : n ≤ c) (hc : ∀ i, i < n → w.cell? ⟨b, off + i, none⟩ = some (.string (Sx i))) (hf : ∀ j, j < n → w.frozen? ⟨b, off + j, none⟩ = false) :
    Calls Try.prog 87 #[.slice (some ⟨b, off, none⟩) n c] w fun e w' => e = .returned (.slice (some ⟨b, off, none⟩) (Lib.compact (Lib.strsOf Sx n)).length c) ∧ ∃ q, w' = (w.drewN q).setCells b off ((Lib.compact (Lib.strsOf Sx n) ++ List.replicate (n - (Lib.compact (Lib.strsOf Sx n)).length) []).map encStr) := Any.slices_Compact_string_cells lays194 b off n c Sx w hbig hcap hc hf
open Go.RowKit Go.Sort in
theorem slices_Sort_string_none (p : Option Addr) (cap : Nat) (w : World) :
    Calls Try.prog 86 #[.slice p 0 cap] w fun e w' => e = .returned (.tuple #[]) ∧ w' = w := Any.slices_Sort_string_none lays190 p cap w
end Go.Proofs.Ytlkgdfeeepiidaa.Sh
