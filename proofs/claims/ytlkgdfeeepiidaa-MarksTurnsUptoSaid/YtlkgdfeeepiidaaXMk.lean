/- The kit's contracts for functions of Go's library at this program, as the kit's lay-shelf.mjs and lay-plain.mjs write them (strings_IndexByte). · The kit's contracts for functions of Go's library at this program, as the kit's lay-shelf.mjs and lay-plain.mjs write them (strings_Repeat, strings_Repeat_negative). · marks: strings.IndexByte and strings.Repeat, as the printed callers ask for them. -/
import Derived.Shelf.Small.Strs
import Derived.Test.YtlkgdfeeepiidaaProg
import Derived.Shelf.Strings.Repeat
import Derived.Test.YtlkgdfeeepiidaaF0
namespace Go.Proofs.Ytlkgdfeeepiidaa.Sh
open Go.Proofs Go.Shelf
def lays137_ren : Go.Shelf.Ren := ⟨fun | 137 => 94 | 217 => 108 | 266 => 125 | n => n, fun | 9 => 9 | 5 => 5 | 3 => 3 | n => n, fun | n => n⟩
theorem lays137 : Go.Proofs.Lays.n137 Try.prog lays137_ren := {
  mixed := by kernel_rfl
  f137 := Try.func94.trans (congrArg some (by kernel_rfl))
  f217 := Try.func108.trans (congrArg some (by kernel_rfl))
  f266 := Try.func125.trans (congrArg some (by kernel_rfl))
  t3 := Try.underlying3
  a3 := Try.isAgg3
  z3 := Try.sizeOf3
  v3 := Try.zeroValue3
  t5 := Try.underlying5
  a5 := Try.isAgg5
  z5 := Try.sizeOf5
  v5 := Try.zeroValue5
  t9 := Try.underlying9
  a9 := Try.isAgg9
  z9 := Try.sizeOf9
  v9 := Try.zeroValue9 }
open Go.RowKit in
theorem strings_IndexByte (s : ByteArray) (c : Int) (w : World) :
    Calls Try.prog 94 #[.string s, .int .u8 c] w fun e w' => e = .returned (.int .i64 (Lib.indexByte s.data.toList c.toNat.toUInt8)) ∧ w' = w := Any.strings_IndexByte lays137 s c w
end Go.Proofs.Ytlkgdfeeepiidaa.Sh
namespace Go.Proofs.Ytlkgdfeeepiidaa.Sh
open Go.Proofs Go.Shelf
def lays105_ren : Go.Shelf.Ren := ⟨fun | 105 => 107 | 212 => 122 | 99 => 123 | 165 => 97 | 166 => 98 | 170 => 124 | 169 => 99 | 263 => 133 | 264 => 134 | 206 => 135 | 240 => 109 | 241 => 110 | 276 => 126 | 277 => 127 | n => n, fun | 9 => 9 | 3 => 3 | 4 => 4 | 20 => 20 | 0 => 0 | 46 => 53 | 109 => 156 | 5 => 5 | 72 => 133 | 76 => 137 | 51 => 153 | 146 => 167 | 53 => 155 | 148 => 169 | 70 => 131 | 37 => 27 | 75 => 136 | 127 => 144 | 164 => 158 | 80 => 139 | n => n, fun | n => n⟩
theorem lays105 : Go.Proofs.Lays.n105 Try.prog lays105_ren := {
  mixed := by kernel_rfl
  f99 := Try.func123.trans (congrArg some (by kernel_rfl))
  f105 := Try.func107.trans (congrArg some (by kernel_rfl))
  f165 := Try.func97.trans (congrArg some (by kernel_rfl))
  f166 := Try.func98.trans (congrArg some (by kernel_rfl))
  f169 := Try.func99.trans (congrArg some (by kernel_rfl))
  f170 := Try.func124.trans (congrArg some (by kernel_rfl))
  f206 := Try.func135.trans (congrArg some (by kernel_rfl))
  f212 := Try.func122.trans (congrArg some (by kernel_rfl))
  f240 := Try.func109.trans (congrArg some (by kernel_rfl))
  f241 := Try.func110.trans (congrArg some (by kernel_rfl))
  f263 := Try.func133.trans (congrArg some (by kernel_rfl))
  f264 := Try.func134.trans (congrArg some (by kernel_rfl))
  f276 := Try.func126.trans (congrArg some (by kernel_rfl))
  f277 := Try.func127.trans (congrArg some (by kernel_rfl))
  t0 := Try.underlying0
  a0 := Try.isAgg0
  z0 := Try.sizeOf0
  v0 := Try.zeroValue0
  t3 := Try.underlying3
  a3 := Try.isAgg3
  z3 := Try.sizeOf3
  v3 := Try.zeroValue3
  t4 := Try.underlying4
  a4 := Try.isAgg4
  z4 := Try.sizeOf4
  v4 := Try.zeroValue4
  t5 := Try.underlying5
  a5 := Try.isAgg5
  z5 := Try.sizeOf5
  v5 := Try.zeroValue5
  t9 := Try.underlying9
  a9 := Try.isAgg9
  z9 := Try.sizeOf9
  v9 := Try.zeroValue9
  t20 := Try.underlying20
  a20 := Try.isAgg20
  z20 := Try.sizeOf20
  v20 := Try.zeroValue20
  t37 := Try.underlying27
  a37 := Try.isAgg27
  z37 := Try.sizeOf27
  v37 := Try.zeroValue27
  t46 := Try.underlying53
  a46 := Try.isAgg53
  z46 := Try.sizeOf53
  v46 := Try.zeroValue53
  t51 := Try.underlying153
  a51 := Try.isAgg153
  z51 := Try.sizeOf153
  v51 := Try.zeroValue153
  t53 := Try.underlying155
  a53 := Try.isAgg155
  z53 := Try.sizeOf155
  v53 := Try.zeroValue155
  t70 := Try.underlying131
  a70 := Try.isAgg131
  z70 := Try.sizeOf131
  v70 := Try.zeroValue131
  t72 := Try.underlying133
  a72 := Try.isAgg133
  z72 := Try.sizeOf133
  v72 := Try.zeroValue133
  t75 := Try.underlying136
  a75 := Try.isAgg136
  z75 := Try.sizeOf136
  v75 := Try.zeroValue136
  t76 := Try.underlying137
  a76 := Try.isAgg137
  z76 := Try.sizeOf137
  v76 := Try.zeroValue137
  t109 := Try.underlying156
  a109 := Try.isAgg156
  z109 := Try.sizeOf156
  v109 := Try.zeroValue156
  t127 := Try.underlying144
  a127 := Try.isAgg144
  z127 := Try.sizeOf144
  v127 := Try.zeroValue144
  t146 := Try.underlying167
  a146 := Try.isAgg167
  z146 := Try.sizeOf167
  v146 := Try.zeroValue167
  t148 := Try.underlying169
  a148 := Try.isAgg169
  z148 := Try.sizeOf169
  v148 := Try.zeroValue169
  t164 := Try.underlying158
  a164 := Try.isAgg158
  z164 := Try.sizeOf158
  v164 := Try.zeroValue158 }
theorem Builder_Extra_105 : Builder.Extra Try.prog lays105_ren := {
  sizeBuilder := by kernel_rfl
  liesBuilder := by kernel_rfl
  t5 := Try.underlying5
  a5 := Try.isAgg5
  z5 := Try.sizeOf5
  v5 := Try.zeroValue5
  infoByte := by kernel_rfl
  cellsByte := by kernel_rfl
  sizeByte := by kernel_rfl
  neB5 := by decide }
open Go.RowKit Go.Lib in
theorem strings_Repeat_negative (s : ByteArray) (c : Int) (w : World) (hc : c < 0) :
    Calls Try.prog 107 #[.string s, .int .i64 c] w fun e w' => e = .panicked [{ v := repeatPanic lays105_ren "strings: negative Repeat count", recovered := false }] ∧ w' = w := Any.strings_Repeat_negative lays105 s c w hc
open Go.RowKit Go.Lib in
theorem strings_Repeat (s : ByteArray) (c : Nat) (w : World) (hc : c ≤ 9223372036854775807) (hlen : s.size * c ≤ 140737488355328) :
    Calls Try.prog 107 #[.string s, .int .i64 c] w fun e w' => e = .returned (.string ⟨(Lib.repeatL s.data.toList c).toArray⟩) ∧ Below w.heap.size w w' := Any.strings_Repeat lays105 Builder_Extra_105 s c w hc hlen
end Go.Proofs.Ytlkgdfeeepiidaa.Sh
namespace Go.Proofs.Ytlkgdfeeepiidaa.All
open Go.RowKit Go.Proofs.Ytlkgdfeeepiidaa Go.Proofs.YtlkgdfeeepiidaaW.PrintWords Go.Proofs.YtlkgdfeeepiidaaW.PrintLast Go.Proofs.YtlkgdfeeepiidaaW.PrintMore
set_option linter.unusedVariables false
def strings_IndexByte.f (a0 : ByteArray) (a1 : Int) : Option Int := some (Lib.indexByte a0.data.toList a1.toNat.toUInt8)
theorem strings_IndexByte.calls (a0 : ByteArray) (a1 : Int) (r : Int) (w : World) (h : strings_IndexByte.f a0 a1 = some r) :
    Calls Try.prog 94 #[.string a0, .int .u8 a1] w fun e w' => e = .returned (.int .i64 r) ∧ Drawn0 w w' := by
  obtain rfl := Option.some.inj h
  refine (Sh.strings_IndexByte a0 a1 w).mono ?_
  rintro e w' ⟨rfl, rfl⟩
  exact ⟨rfl, Drawn0.refl _⟩
def strings_Repeat.f (a0 : ByteArray) (a1 : Int) : Option ByteArray := if 0 ≤ a1 ∧ a1 ≤ 1000000 ∧ a0.size ≤ 1000000 then some ⟨(Lib.repeatL a0.data.toList a1.toNat).toArray⟩ else none
theorem strings_Repeat.calls (a0 : ByteArray) (a1 : Int) (r : ByteArray) (w : World) (h : strings_Repeat.f a0 a1 = some r) :
    Calls Try.prog 107 #[.string a0, .int .i64 a1] w fun e w' => e = .returned (.string r) ∧ Below w.heap.size w w' := by
  unfold strings_Repeat.f at h
  split at h
  · rename_i hb
    obtain ⟨h0, h1, h2⟩ := hb
    obtain rfl := Option.some.inj h
    obtain ⟨c, rfl⟩ := Int.eq_ofNat_of_zero_le h0
    rw [Int.toNat_natCast]
    refine Sh.strings_Repeat a0 c w (by omega) ?_
    have : a0.size * c ≤ 1000000 * 1000000 := Nat.mul_le_mul h2 (by omega)
    omega
  · cases h
end Go.Proofs.Ytlkgdfeeepiidaa.All
