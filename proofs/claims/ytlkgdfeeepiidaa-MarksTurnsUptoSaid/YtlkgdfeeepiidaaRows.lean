/-
  No cell of these rows narrows 'for every input' (looked for: loops, veiled, ifaces, maps, wideKeys, modest, calm, conditions, laid).
  DERIVED. THE GIVEN ROWS OF THIS SEAT. 23 by the template 'for every input the law returns true; each argument reads behind the call as it read before'; 0 by the template 'total and deterministic' (their statements: YtlkgdfeeepiidaaTotals.lean).
  GIVEN WITH THE SEED: the statements are not yours to turn. If you find one false, say at which input.
  Laid BY PROGRAM, IN A SANDBOX (cutbox-rows.mjs): the forced cells as the released guide's own fill.sh prints them over the translation 7eb0d293d0c78659… (all of the seat's roots in one cut). By AI agents, Wed Nov 11 2026. No macro, syntax, notation, axiom, sorry.
-/
import Derived.Test.YtlkgdfeeepiidaaChecked
import GoSem.Claim
import GoSem.ClaimJoined
import GoSem.ClaimMapViews
import Derived.JoinedTies
import Derived.KernelRfl
namespace Go.Proofs.Ytlkgdfeeepiidaa
/- THE CELL 'sum', in the pinned program and in every row, IS THE sha256 OF THE DUMP (.gsa) THAT YtlkgdfeeepiidaaProg.lean LOADS. Nothing in Lean hashes anything: it is a label: what it is worth is what the hold of that sum in a sandbox is worth. -/
noncomputable def Try.pinned : Pinned := { name := "ytlkgdfeeepiidaa", sum := "7eb0d293d0c786594a3a61e75a1b907f96c6c0784e545b398f05727475fd0885", checked := Try.checked }
namespace Rows
def none {H : Type} : Left H := { results := [], args := [] }

/-- 'emendationlaw03.TokenCuts': WHATEVER THE INPUT: true; the input reads as it did. -/
def tokenCutsSpec : ChangeSpec := { name := "tokenCuts", fn := fun _ => fun
  | [d] => { results := [.lit (.bool true)], args := [d] }
  | _ => none }
def tokenCutsRow : OpenClaim := { program := "ytlkgdfeeepiidaa", sum := "7eb0d293d0c786594a3a61e75a1b907f96c6c0784e545b398f05727475fd0885", func := "emendation/emendationlaw03.TokenCuts", spec := "tokenCuts", apart := false }
def TokenCutsSaid : Prop := tokenCutsRow.holds Try.pinned (OpenSpec.ofChange tokenCutsSpec)

/-- ITS FALSE NEIGHBOUR: 'it returns false'. Refute it at one input. -/
def tokenCutsWrong : ChangeSpec := { name := "tokenCuts", fn := fun _ => fun
  | [d] => { results := [.lit (.bool false)], args := [d] }
  | _ => none }
def TokenCutsWrongFalsely : Prop := tokenCutsRow.holds Try.pinned (OpenSpec.ofChange tokenCutsWrong)

/-- 'emendationlaw03.TokenCounts': WHATEVER THE INPUT: true; the input reads as it did. -/
def tokenCountsSpec : ChangeSpec := { name := "tokenCounts", fn := fun _ => fun
  | [d1, d2, d3] => { results := [.lit (.bool true)], args := [d1, d2, d3] }
  | _ => none }
def tokenCountsRow : OpenClaim := { program := "ytlkgdfeeepiidaa", sum := "7eb0d293d0c786594a3a61e75a1b907f96c6c0784e545b398f05727475fd0885", func := "emendation/emendationlaw03.TokenCounts", spec := "tokenCounts", apart := false }
def TokenCountsSaid : Prop := tokenCountsRow.holds Try.pinned (OpenSpec.ofChange tokenCountsSpec)

/-- ITS FALSE NEIGHBOUR: 'it returns false'. Refute it at one input. -/
def tokenCountsWrong : ChangeSpec := { name := "tokenCounts", fn := fun _ => fun
  | [d1, d2, d3] => { results := [.lit (.bool false)], args := [d1, d2, d3] }
  | _ => none }
def TokenCountsWrongFalsely : Prop := tokenCountsRow.holds Try.pinned (OpenSpec.ofChange tokenCountsWrong)

/-- 'emendationlaw04.LcsMost': WHATEVER THE INPUT: true; the input reads as it did. -/
def lcsMostSpec : ChangeSpec := { name := "lcsMost", fn := fun _ => fun
  | [d1, d2] => { results := [.lit (.bool true)], args := [d1, d2] }
  | _ => none }
def lcsMostRow : OpenClaim := { program := "ytlkgdfeeepiidaa", sum := "7eb0d293d0c786594a3a61e75a1b907f96c6c0784e545b398f05727475fd0885", func := "emendation/emendationlaw04.LcsMost", spec := "lcsMost", apart := false }
def LcsMostSaid : Prop := lcsMostRow.holds Try.pinned (OpenSpec.ofChange lcsMostSpec)

/-- ITS FALSE NEIGHBOUR: 'it returns false'. Refute it at one input. -/
def lcsMostWrong : ChangeSpec := { name := "lcsMost", fn := fun _ => fun
  | [d1, d2] => { results := [.lit (.bool false)], args := [d1, d2] }
  | _ => none }
def LcsMostWrongFalsely : Prop := lcsMostRow.holds Try.pinned (OpenSpec.ofChange lcsMostWrong)

/-- 'emendationlaw04.LcsMore': WHATEVER THE INPUT: true; the input reads as it did. -/
def lcsMoreSpec : ChangeSpec := { name := "lcsMore", fn := fun _ => fun
  | [d1, d2, d3] => { results := [.lit (.bool true)], args := [d1, d2, d3] }
  | _ => none }
def lcsMoreRow : OpenClaim := { program := "ytlkgdfeeepiidaa", sum := "7eb0d293d0c786594a3a61e75a1b907f96c6c0784e545b398f05727475fd0885", func := "emendation/emendationlaw04.LcsMore", spec := "lcsMore", apart := false }
def LcsMoreSaid : Prop := lcsMoreRow.holds Try.pinned (OpenSpec.ofChange lcsMoreSpec)

/-- ITS FALSE NEIGHBOUR: 'it returns false'. Refute it at one input. -/
def lcsMoreWrong : ChangeSpec := { name := "lcsMore", fn := fun _ => fun
  | [d1, d2, d3] => { results := [.lit (.bool false)], args := [d1, d2, d3] }
  | _ => none }
def LcsMoreWrongFalsely : Prop := lcsMoreRow.holds Try.pinned (OpenSpec.ofChange lcsMoreWrong)

/-- 'emendationlaw04.LcsTells': WHATEVER THE INPUT: true; the input reads as it did. -/
def lcsTellsSpec : ChangeSpec := { name := "lcsTells", fn := fun _ => fun
  | [d1, d2] => { results := [.lit (.bool true)], args := [d1, d2] }
  | _ => none }
def lcsTellsRow : OpenClaim := { program := "ytlkgdfeeepiidaa", sum := "7eb0d293d0c786594a3a61e75a1b907f96c6c0784e545b398f05727475fd0885", func := "emendation/emendationlaw04.LcsTells", spec := "lcsTells", unfollowed := true, recurses := true, apart := false }
def LcsTellsSaid : Prop := lcsTellsRow.holds Try.pinned (OpenSpec.ofChange lcsTellsSpec)

/-- ITS FALSE NEIGHBOUR: 'it returns false'. Refute it at one input. -/
def lcsTellsWrong : ChangeSpec := { name := "lcsTells", fn := fun _ => fun
  | [d1, d2] => { results := [.lit (.bool false)], args := [d1, d2] }
  | _ => none }
def LcsTellsWrongFalsely : Prop := lcsTellsRow.holds Try.pinned (OpenSpec.ofChange lcsTellsWrong)

/-- 'emendationlaw06.MarksSize': WHATEVER THE INPUT: true; the input reads as it did. -/
def marksSizeSpec : ChangeSpec := { name := "marksSize", fn := fun _ => fun
  | [d1, d2] => { results := [.lit (.bool true)], args := [d1, d2] }
  | _ => none }
def marksSizeRow : OpenClaim := { program := "ytlkgdfeeepiidaa", sum := "7eb0d293d0c786594a3a61e75a1b907f96c6c0784e545b398f05727475fd0885", func := "emendation/emendationlaw06.MarksSize", spec := "marksSize", inPlace := ["internal/abi.NoEscape", "internal/bytealg.MakeNoZero", "internal/bytealg.IndexByteString"], unfollowed := true, recurses := true, apart := false }
def MarksSizeSaid : Prop := marksSizeRow.holds Try.pinned (OpenSpec.ofChange marksSizeSpec)

/-- ITS FALSE NEIGHBOUR: 'it returns false'. Refute it at one input. -/
def marksSizeWrong : ChangeSpec := { name := "marksSize", fn := fun _ => fun
  | [d1, d2] => { results := [.lit (.bool false)], args := [d1, d2] }
  | _ => none }
def MarksSizeWrongFalsely : Prop := marksSizeRow.holds Try.pinned (OpenSpec.ofChange marksSizeWrong)

/-- 'emendationlaw04.LcsPairs': WHATEVER THE INPUT: true; the input reads as it did. -/
def lcsPairsSpec : ChangeSpec := { name := "lcsPairs", fn := fun _ => fun
  | [d1, d2] => { results := [.lit (.bool true)], args := [d1, d2] }
  | _ => none }
def lcsPairsRow : OpenClaim := { program := "ytlkgdfeeepiidaa", sum := "7eb0d293d0c786594a3a61e75a1b907f96c6c0784e545b398f05727475fd0885", func := "emendation/emendationlaw04.LcsPairs", spec := "lcsPairs", unfollowed := true, recurses := true, apart := false }
def LcsPairsSaid : Prop := lcsPairsRow.holds Try.pinned (OpenSpec.ofChange lcsPairsSpec)

/-- ITS FALSE NEIGHBOUR: 'it returns false'. Refute it at one input. -/
def lcsPairsWrong : ChangeSpec := { name := "lcsPairs", fn := fun _ => fun
  | [d1, d2] => { results := [.lit (.bool false)], args := [d1, d2] }
  | _ => none }
def LcsPairsWrongFalsely : Prop := lcsPairsRow.holds Try.pinned (OpenSpec.ofChange lcsPairsWrong)

/-- 'emendationlaw06.MarksTurns': WHATEVER THE INPUT: true; the input reads as it did. -/
def marksTurnsSpec : ChangeSpec := { name := "marksTurns", fn := fun _ => fun
  | [d1, d2, d3, d4] => { results := [.lit (.bool true)], args := [d1, d2, d3, d4] }
  | _ => none }
def marksTurnsRow : OpenClaim := { program := "ytlkgdfeeepiidaa", sum := "7eb0d293d0c786594a3a61e75a1b907f96c6c0784e545b398f05727475fd0885", func := "emendation/emendationlaw06.MarksTurns", spec := "marksTurns", inPlace := ["internal/abi.NoEscape", "internal/bytealg.MakeNoZero", "internal/bytealg.IndexByteString"], unfollowed := true, recurses := true, apart := false }
def MarksTurnsSaid : Prop := marksTurnsRow.holds Try.pinned (OpenSpec.ofChange marksTurnsSpec)

/-- ITS FALSE NEIGHBOUR: 'it returns false'. Refute it at one input. -/
def marksTurnsWrong : ChangeSpec := { name := "marksTurns", fn := fun _ => fun
  | [d1, d2, d3, d4] => { results := [.lit (.bool false)], args := [d1, d2, d3, d4] }
  | _ => none }
def MarksTurnsWrongFalsely : Prop := marksTurnsRow.holds Try.pinned (OpenSpec.ofChange marksTurnsWrong)

/-- 'emendationlaw04.LcsSelf': WHATEVER THE INPUT: true; the input reads as it did. -/
def lcsSelfSpec : ChangeSpec := { name := "lcsSelf", fn := fun _ => fun
  | [d1, d2, d3] => { results := [.lit (.bool true)], args := [d1, d2, d3] }
  | _ => none }
def lcsSelfRow : OpenClaim := { program := "ytlkgdfeeepiidaa", sum := "7eb0d293d0c786594a3a61e75a1b907f96c6c0784e545b398f05727475fd0885", func := "emendation/emendationlaw04.LcsSelf", spec := "lcsSelf", unfollowed := true, recurses := true, apart := false }
def LcsSelfSaid : Prop := lcsSelfRow.holds Try.pinned (OpenSpec.ofChange lcsSelfSpec)

/-- ITS FALSE NEIGHBOUR: 'it returns false'. Refute it at one input. -/
def lcsSelfWrong : ChangeSpec := { name := "lcsSelf", fn := fun _ => fun
  | [d1, d2, d3] => { results := [.lit (.bool false)], args := [d1, d2, d3] }
  | _ => none }
def LcsSelfWrongFalsely : Prop := lcsSelfRow.holds Try.pinned (OpenSpec.ofChange lcsSelfWrong)

/-- 'emendationlaw04.LcsBounds': WHATEVER THE INPUT: true; the input reads as it did. -/
def lcsBoundsSpec : ChangeSpec := { name := "lcsBounds", fn := fun _ => fun
  | [d1, d2, d3, d4] => { results := [.lit (.bool true)], args := [d1, d2, d3, d4] }
  | _ => none }
def lcsBoundsRow : OpenClaim := { program := "ytlkgdfeeepiidaa", sum := "7eb0d293d0c786594a3a61e75a1b907f96c6c0784e545b398f05727475fd0885", func := "emendation/emendationlaw04.LcsBounds", spec := "lcsBounds", unfollowed := true, recurses := true, apart := false }
def LcsBoundsSaid : Prop := lcsBoundsRow.holds Try.pinned (OpenSpec.ofChange lcsBoundsSpec)

/-- ITS FALSE NEIGHBOUR: 'it returns false'. Refute it at one input. -/
def lcsBoundsWrong : ChangeSpec := { name := "lcsBounds", fn := fun _ => fun
  | [d1, d2, d3, d4] => { results := [.lit (.bool false)], args := [d1, d2, d3, d4] }
  | _ => none }
def LcsBoundsWrongFalsely : Prop := lcsBoundsRow.holds Try.pinned (OpenSpec.ofChange lcsBoundsWrong)

/-- 'emendationlaw03.TokenBack': WHATEVER THE INPUT: true; the input reads as it did. -/
def tokenBackSpec : ChangeSpec := { name := "tokenBack", fn := fun _ => fun
  | [d1, d2] => { results := [.lit (.bool true)], args := [d1, d2] }
  | _ => none }
def tokenBackRow : OpenClaim := { program := "ytlkgdfeeepiidaa", sum := "7eb0d293d0c786594a3a61e75a1b907f96c6c0784e545b398f05727475fd0885", func := "emendation/emendationlaw03.TokenBack", spec := "tokenBack", inPlace := ["internal/abi.NoEscape", "internal/bytealg.MakeNoZero"], apart := false }
def TokenBackSaid : Prop := tokenBackRow.holds Try.pinned (OpenSpec.ofChange tokenBackSpec)

/-- ITS FALSE NEIGHBOUR: 'it returns false'. Refute it at one input. -/
def tokenBackWrong : ChangeSpec := { name := "tokenBack", fn := fun _ => fun
  | [d1, d2] => { results := [.lit (.bool false)], args := [d1, d2] }
  | _ => none }
def TokenBackWrongFalsely : Prop := tokenBackRow.holds Try.pinned (OpenSpec.ofChange tokenBackWrong)

/-- 'emendationlaw03.TokenParts': WHATEVER THE INPUT: true; the input reads as it did. -/
def tokenPartsSpec : ChangeSpec := { name := "tokenParts", fn := fun _ => fun
  | [d1, d2] => { results := [.lit (.bool true)], args := [d1, d2] }
  | _ => none }
def tokenPartsRow : OpenClaim := { program := "ytlkgdfeeepiidaa", sum := "7eb0d293d0c786594a3a61e75a1b907f96c6c0784e545b398f05727475fd0885", func := "emendation/emendationlaw03.TokenParts", spec := "tokenParts", inPlace := ["internal/abi.NoEscape", "internal/bytealg.MakeNoZero"], apart := false }
def TokenPartsSaid : Prop := tokenPartsRow.holds Try.pinned (OpenSpec.ofChange tokenPartsSpec)

/-- ITS FALSE NEIGHBOUR: 'it returns false'. Refute it at one input. -/
def tokenPartsWrong : ChangeSpec := { name := "tokenParts", fn := fun _ => fun
  | [d1, d2] => { results := [.lit (.bool false)], args := [d1, d2] }
  | _ => none }
def TokenPartsWrongFalsely : Prop := tokenPartsRow.holds Try.pinned (OpenSpec.ofChange tokenPartsWrong)

/-- 'emendationlaw05.WeaveTells': WHATEVER THE INPUT: true; the input reads as it did. -/
def weaveTellsSpec : ChangeSpec := { name := "weaveTells", fn := fun _ => fun
  | [d1, d2, d3] => { results := [.lit (.bool true)], args := [d1, d2, d3] }
  | _ => none }
def weaveTellsRow : OpenClaim := { program := "ytlkgdfeeepiidaa", sum := "7eb0d293d0c786594a3a61e75a1b907f96c6c0784e545b398f05727475fd0885", func := "emendation/emendationlaw05.WeaveTells", spec := "weaveTells", unfollowed := true, recurses := true, apart := false }
def WeaveTellsSaid : Prop := weaveTellsRow.holds Try.pinned (OpenSpec.ofChange weaveTellsSpec)

/-- ITS FALSE NEIGHBOUR: 'it returns false'. Refute it at one input. -/
def weaveTellsWrong : ChangeSpec := { name := "weaveTells", fn := fun _ => fun
  | [d1, d2, d3] => { results := [.lit (.bool false)], args := [d1, d2, d3] }
  | _ => none }
def WeaveTellsWrongFalsely : Prop := weaveTellsRow.holds Try.pinned (OpenSpec.ofChange weaveTellsWrong)

/-- 'emendationlaw05.WeaveAll': WHATEVER THE INPUT: true; the input reads as it did. -/
def weaveAllSpec : ChangeSpec := { name := "weaveAll", fn := fun _ => fun
  | [d1, d2, d3] => { results := [.lit (.bool true)], args := [d1, d2, d3] }
  | _ => none }
def weaveAllRow : OpenClaim := { program := "ytlkgdfeeepiidaa", sum := "7eb0d293d0c786594a3a61e75a1b907f96c6c0784e545b398f05727475fd0885", func := "emendation/emendationlaw05.WeaveAll", spec := "weaveAll", unfollowed := true, recurses := true, apart := false }
def WeaveAllSaid : Prop := weaveAllRow.holds Try.pinned (OpenSpec.ofChange weaveAllSpec)

/-- ITS FALSE NEIGHBOUR: 'it returns false'. Refute it at one input. -/
def weaveAllWrong : ChangeSpec := { name := "weaveAll", fn := fun _ => fun
  | [d1, d2, d3] => { results := [.lit (.bool false)], args := [d1, d2, d3] }
  | _ => none }
def WeaveAllWrongFalsely : Prop := weaveAllRow.holds Try.pinned (OpenSpec.ofChange weaveAllWrong)

/-- 'emendationlaw05.WeaveOne': WHATEVER THE INPUT: true; the input reads as it did. -/
def weaveOneSpec : ChangeSpec := { name := "weaveOne", fn := fun _ => fun
  | [d1, d2] => { results := [.lit (.bool true)], args := [d1, d2] }
  | _ => none }
def weaveOneRow : OpenClaim := { program := "ytlkgdfeeepiidaa", sum := "7eb0d293d0c786594a3a61e75a1b907f96c6c0784e545b398f05727475fd0885", func := "emendation/emendationlaw05.WeaveOne", spec := "weaveOne", unfollowed := true, recurses := true, apart := false }
def WeaveOneSaid : Prop := weaveOneRow.holds Try.pinned (OpenSpec.ofChange weaveOneSpec)

/-- ITS FALSE NEIGHBOUR: 'it returns false'. Refute it at one input. -/
def weaveOneWrong : ChangeSpec := { name := "weaveOne", fn := fun _ => fun
  | [d1, d2] => { results := [.lit (.bool false)], args := [d1, d2] }
  | _ => none }
def WeaveOneWrongFalsely : Prop := weaveOneRow.holds Try.pinned (OpenSpec.ofChange weaveOneWrong)

/-- 'emendationlaw05.WeaveTurns': WHATEVER THE INPUT: true; the input reads as it did. -/
def weaveTurnsSpec : ChangeSpec := { name := "weaveTurns", fn := fun _ => fun
  | [d1, d2, d3] => { results := [.lit (.bool true)], args := [d1, d2, d3] }
  | _ => none }
def weaveTurnsRow : OpenClaim := { program := "ytlkgdfeeepiidaa", sum := "7eb0d293d0c786594a3a61e75a1b907f96c6c0784e545b398f05727475fd0885", func := "emendation/emendationlaw05.WeaveTurns", spec := "weaveTurns", unfollowed := true, recurses := true, apart := false }
def WeaveTurnsSaid : Prop := weaveTurnsRow.holds Try.pinned (OpenSpec.ofChange weaveTurnsSpec)

/-- ITS FALSE NEIGHBOUR: 'it returns false'. Refute it at one input. -/
def weaveTurnsWrong : ChangeSpec := { name := "weaveTurns", fn := fun _ => fun
  | [d1, d2, d3] => { results := [.lit (.bool false)], args := [d1, d2, d3] }
  | _ => none }
def WeaveTurnsWrongFalsely : Prop := weaveTurnsRow.holds Try.pinned (OpenSpec.ofChange weaveTurnsWrong)

/-- 'emendationlaw05.WeaveFar': WHATEVER THE INPUT: true; the input reads as it did. -/
def weaveFarSpec : ChangeSpec := { name := "weaveFar", fn := fun _ => fun
  | [d1, d2, d3, d4, d5] => { results := [.lit (.bool true)], args := [d1, d2, d3, d4, d5] }
  | _ => none }
def weaveFarRow : OpenClaim := { program := "ytlkgdfeeepiidaa", sum := "7eb0d293d0c786594a3a61e75a1b907f96c6c0784e545b398f05727475fd0885", func := "emendation/emendationlaw05.WeaveFar", spec := "weaveFar", unfollowed := true, recurses := true, apart := false }
def WeaveFarSaid : Prop := weaveFarRow.holds Try.pinned (OpenSpec.ofChange weaveFarSpec)

/-- ITS FALSE NEIGHBOUR: 'it returns false'. Refute it at one input. -/
def weaveFarWrong : ChangeSpec := { name := "weaveFar", fn := fun _ => fun
  | [d1, d2, d3, d4, d5] => { results := [.lit (.bool false)], args := [d1, d2, d3, d4, d5] }
  | _ => none }
def WeaveFarWrongFalsely : Prop := weaveFarRow.holds Try.pinned (OpenSpec.ofChange weaveFarWrong)

/-- 'emendationlaw05.WeaveNames': WHATEVER THE INPUT: true; the input reads as it did. -/
def weaveNamesSpec : ChangeSpec := { name := "weaveNames", fn := fun _ => fun
  | [d1, d2, d3, d4] => { results := [.lit (.bool true)], args := [d1, d2, d3, d4] }
  | _ => none }
def weaveNamesRow : OpenClaim := { program := "ytlkgdfeeepiidaa", sum := "7eb0d293d0c786594a3a61e75a1b907f96c6c0784e545b398f05727475fd0885", func := "emendation/emendationlaw05.WeaveNames", spec := "weaveNames", unfollowed := true, recurses := true, apart := false }
def WeaveNamesSaid : Prop := weaveNamesRow.holds Try.pinned (OpenSpec.ofChange weaveNamesSpec)

/-- ITS FALSE NEIGHBOUR: 'it returns false'. Refute it at one input. -/
def weaveNamesWrong : ChangeSpec := { name := "weaveNames", fn := fun _ => fun
  | [d1, d2, d3, d4] => { results := [.lit (.bool false)], args := [d1, d2, d3, d4] }
  | _ => none }
def WeaveNamesWrongFalsely : Prop := weaveNamesRow.holds Try.pinned (OpenSpec.ofChange weaveNamesWrong)

/-- 'emendationlaw05.WeaveEnds': WHATEVER THE INPUT: true; the input reads as it did. -/
def weaveEndsSpec : ChangeSpec := { name := "weaveEnds", fn := fun _ => fun
  | [d1, d2, d3] => { results := [.lit (.bool true)], args := [d1, d2, d3] }
  | _ => none }
def weaveEndsRow : OpenClaim := { program := "ytlkgdfeeepiidaa", sum := "7eb0d293d0c786594a3a61e75a1b907f96c6c0784e545b398f05727475fd0885", func := "emendation/emendationlaw05.WeaveEnds", spec := "weaveEnds", unfollowed := true, recurses := true, apart := false }
def WeaveEndsSaid : Prop := weaveEndsRow.holds Try.pinned (OpenSpec.ofChange weaveEndsSpec)

/-- ITS FALSE NEIGHBOUR: 'it returns false'. Refute it at one input. -/
def weaveEndsWrong : ChangeSpec := { name := "weaveEnds", fn := fun _ => fun
  | [d1, d2, d3] => { results := [.lit (.bool false)], args := [d1, d2, d3] }
  | _ => none }
def WeaveEndsWrongFalsely : Prop := weaveEndsRow.holds Try.pinned (OpenSpec.ofChange weaveEndsWrong)

/-- 'emendationlaw03.TokenIds': WHATEVER THE INPUT: true; the input reads as it did. -/
def tokenIdsSpec : ChangeSpec := { name := "tokenIds", fn := fun _ => fun
  | [d1, d2] => { results := [.lit (.bool true)], args := [d1, d2] }
  | _ => none }
def tokenIdsRow : OpenClaim := { program := "ytlkgdfeeepiidaa", sum := "7eb0d293d0c786594a3a61e75a1b907f96c6c0784e545b398f05727475fd0885", func := "emendation/emendationlaw03.TokenIds", spec := "tokenIds", recurses := true, apart := false }
def TokenIdsSaid : Prop := tokenIdsRow.holds Try.pinned (OpenSpec.ofChange tokenIdsSpec)

/-- ITS FALSE NEIGHBOUR: 'it returns false'. Refute it at one input. -/
def tokenIdsWrong : ChangeSpec := { name := "tokenIds", fn := fun _ => fun
  | [d1, d2] => { results := [.lit (.bool false)], args := [d1, d2] }
  | _ => none }
def TokenIdsWrongFalsely : Prop := tokenIdsRow.holds Try.pinned (OpenSpec.ofChange tokenIdsWrong)

/-- 'emendationlaw03.TokenSame': WHATEVER THE INPUT: true; the input reads as it did. -/
def tokenSameSpec : ChangeSpec := { name := "tokenSame", fn := fun _ => fun
  | [d1, d2, d3] => { results := [.lit (.bool true)], args := [d1, d2, d3] }
  | _ => none }
def tokenSameRow : OpenClaim := { program := "ytlkgdfeeepiidaa", sum := "7eb0d293d0c786594a3a61e75a1b907f96c6c0784e545b398f05727475fd0885", func := "emendation/emendationlaw03.TokenSame", spec := "tokenSame", recurses := true, apart := false }
def TokenSameSaid : Prop := tokenSameRow.holds Try.pinned (OpenSpec.ofChange tokenSameSpec)

/-- ITS FALSE NEIGHBOUR: 'it returns false'. Refute it at one input. -/
def tokenSameWrong : ChangeSpec := { name := "tokenSame", fn := fun _ => fun
  | [d1, d2, d3] => { results := [.lit (.bool false)], args := [d1, d2, d3] }
  | _ => none }
def TokenSameWrongFalsely : Prop := tokenSameRow.holds Try.pinned (OpenSpec.ofChange tokenSameWrong)

/-- 'emendationlaw03.TokenLists': WHATEVER THE INPUT: true; the input reads as it did. -/
def tokenListsSpec : ChangeSpec := { name := "tokenLists", fn := fun _ => fun
  | [d1, d2] => { results := [.lit (.bool true)], args := [d1, d2] }
  | _ => none }
def tokenListsRow : OpenClaim := { program := "ytlkgdfeeepiidaa", sum := "7eb0d293d0c786594a3a61e75a1b907f96c6c0784e545b398f05727475fd0885", func := "emendation/emendationlaw03.TokenLists", spec := "tokenLists", recurses := true, apart := false }
def TokenListsSaid : Prop := tokenListsRow.holds Try.pinned (OpenSpec.ofChange tokenListsSpec)

/-- ITS FALSE NEIGHBOUR: 'it returns false'. Refute it at one input. -/
def tokenListsWrong : ChangeSpec := { name := "tokenLists", fn := fun _ => fun
  | [d1, d2] => { results := [.lit (.bool false)], args := [d1, d2] }
  | _ => none }
def TokenListsWrongFalsely : Prop := tokenListsRow.holds Try.pinned (OpenSpec.ofChange tokenListsWrong)

/-- 'emendationlaw06.MarksBack': WHATEVER THE INPUT: true; the input reads as it did. -/
def marksBackSpec : ChangeSpec := { name := "marksBack", fn := fun _ => fun
  | [d1, d2, d3, d4, d5, d6, d7] => { results := [.lit (.bool true)], args := [d1, d2, d3, d4, d5, d6, d7] }
  | _ => none }
def marksBackRow : OpenClaim := { program := "ytlkgdfeeepiidaa", sum := "7eb0d293d0c786594a3a61e75a1b907f96c6c0784e545b398f05727475fd0885", func := "emendation/emendationlaw06.MarksBack", spec := "marksBack", inPlace := ["internal/abi.NoEscape", "internal/bytealg.MakeNoZero", "internal/bytealg.IndexByteString"], unfollowed := true, recurses := true, apart := false }
def MarksBackSaid : Prop := marksBackRow.holds Try.pinned (OpenSpec.ofChange marksBackSpec)

/-- ITS FALSE NEIGHBOUR: 'it returns false'. Refute it at one input. -/
def marksBackWrong : ChangeSpec := { name := "marksBack", fn := fun _ => fun
  | [d1, d2, d3, d4, d5, d6, d7] => { results := [.lit (.bool false)], args := [d1, d2, d3, d4, d5, d6, d7] }
  | _ => none }
def MarksBackWrongFalsely : Prop := marksBackRow.holds Try.pinned (OpenSpec.ofChange marksBackWrong)

/- THE SECOND FORM. 'bulk': how many values and letters a reading holds, each counted each time it is reached (what is shared counts as often as it is met; a slice's spare places count too). A statement '..UptoSaid' is the law's where the arguments, and the package variables that the reading takes, are together of bulk at most 1048576: NARROWER than '..Said'. Prove '..Said' where nothing that the law and all that it calls make is longer than what came in: it says more and counts as full. Else prove '..UptoSaid'. A law counts once. -/
mutual
def uptoBulk {H : Type} : DataW H → Nat
  | .lit (.string bytes) => bytes.length + 1
  | .lit _ => 1
  | .nil => 1
  | .ptr d => uptoBulk d + 1
  | .slice elems spare => uptoBulkAll elems + uptoBulkAll spare + 1
  | .agg parts => uptoBulkAll parts + 1
  | .iface _ d => uptoBulk d + 1
  | .map entries => uptoBulkEntries entries + 1
  | .held _ => 1
def uptoBulkAll {H : Type} : List (DataW H) → Nat
  | [] => 0
  | d :: r => uptoBulk d + uptoBulkAll r
def uptoBulkEntries {H : Type} : List (Lit × DataW H) → Nat
  | [] => 0
  | x :: r => uptoBulkEntry x + uptoBulkEntries r
def uptoBulkEntry {H : Type} : Lit × DataW H → Nat
  | (.string bytes, d) => bytes.length + uptoBulk d + 1
  | (_, d) => uptoBulk d + 1
 end
def uptoSmall : (H : Type) → List (DataW H) → Bool := fun _ ds => decide (uptoBulkAll ds ≤ 1048576)
def OpenSpec.upto (s : _root_.Go.ChangeSpec) : _root_.Go.OpenSpec := { _root_.Go.OpenSpec.ofChange s with cond := some uptoSmall }

/-- 'emendationlaw03.TokenCuts', WHERE WHAT IT READS IS OF BULK AT MOST 1048576: true; the input reads as it did. -/
def tokenCutsUptoRow : OpenClaim := { program := "ytlkgdfeeepiidaa", sum := "7eb0d293d0c786594a3a61e75a1b907f96c6c0784e545b398f05727475fd0885", func := "emendation/emendationlaw03.TokenCuts", spec := "tokenCuts", apart := false, narrowed := true }
def TokenCutsUptoSaid : Prop := tokenCutsUptoRow.holds Try.pinned (OpenSpec.upto tokenCutsSpec)

/-- 'emendationlaw03.TokenCounts', WHERE WHAT IT READS IS OF BULK AT MOST 1048576: true; the input reads as it did. -/
def tokenCountsUptoRow : OpenClaim := { program := "ytlkgdfeeepiidaa", sum := "7eb0d293d0c786594a3a61e75a1b907f96c6c0784e545b398f05727475fd0885", func := "emendation/emendationlaw03.TokenCounts", spec := "tokenCounts", apart := false, narrowed := true }
def TokenCountsUptoSaid : Prop := tokenCountsUptoRow.holds Try.pinned (OpenSpec.upto tokenCountsSpec)

/-- 'emendationlaw04.LcsMost', WHERE WHAT IT READS IS OF BULK AT MOST 1048576: true; the input reads as it did. -/
def lcsMostUptoRow : OpenClaim := { program := "ytlkgdfeeepiidaa", sum := "7eb0d293d0c786594a3a61e75a1b907f96c6c0784e545b398f05727475fd0885", func := "emendation/emendationlaw04.LcsMost", spec := "lcsMost", apart := false, narrowed := true }
def LcsMostUptoSaid : Prop := lcsMostUptoRow.holds Try.pinned (OpenSpec.upto lcsMostSpec)

/-- 'emendationlaw04.LcsMore', WHERE WHAT IT READS IS OF BULK AT MOST 1048576: true; the input reads as it did. -/
def lcsMoreUptoRow : OpenClaim := { program := "ytlkgdfeeepiidaa", sum := "7eb0d293d0c786594a3a61e75a1b907f96c6c0784e545b398f05727475fd0885", func := "emendation/emendationlaw04.LcsMore", spec := "lcsMore", apart := false, narrowed := true }
def LcsMoreUptoSaid : Prop := lcsMoreUptoRow.holds Try.pinned (OpenSpec.upto lcsMoreSpec)

/-- 'emendationlaw04.LcsTells', WHERE WHAT IT READS IS OF BULK AT MOST 1048576: true; the input reads as it did. -/
def lcsTellsUptoRow : OpenClaim := { program := "ytlkgdfeeepiidaa", sum := "7eb0d293d0c786594a3a61e75a1b907f96c6c0784e545b398f05727475fd0885", func := "emendation/emendationlaw04.LcsTells", spec := "lcsTells", unfollowed := true, recurses := true, apart := false, narrowed := true }
def LcsTellsUptoSaid : Prop := lcsTellsUptoRow.holds Try.pinned (OpenSpec.upto lcsTellsSpec)

/-- 'emendationlaw06.MarksSize', WHERE WHAT IT READS IS OF BULK AT MOST 1048576: true; the input reads as it did. -/
def marksSizeUptoRow : OpenClaim := { program := "ytlkgdfeeepiidaa", sum := "7eb0d293d0c786594a3a61e75a1b907f96c6c0784e545b398f05727475fd0885", func := "emendation/emendationlaw06.MarksSize", spec := "marksSize", inPlace := ["internal/abi.NoEscape", "internal/bytealg.MakeNoZero", "internal/bytealg.IndexByteString"], unfollowed := true, recurses := true, apart := false, narrowed := true }
def MarksSizeUptoSaid : Prop := marksSizeUptoRow.holds Try.pinned (OpenSpec.upto marksSizeSpec)

/-- 'emendationlaw04.LcsPairs', WHERE WHAT IT READS IS OF BULK AT MOST 1048576: true; the input reads as it did. -/
def lcsPairsUptoRow : OpenClaim := { program := "ytlkgdfeeepiidaa", sum := "7eb0d293d0c786594a3a61e75a1b907f96c6c0784e545b398f05727475fd0885", func := "emendation/emendationlaw04.LcsPairs", spec := "lcsPairs", unfollowed := true, recurses := true, apart := false, narrowed := true }
def LcsPairsUptoSaid : Prop := lcsPairsUptoRow.holds Try.pinned (OpenSpec.upto lcsPairsSpec)

/-- 'emendationlaw06.MarksTurns', WHERE WHAT IT READS IS OF BULK AT MOST 1048576: true; the input reads as it did. -/
def marksTurnsUptoRow : OpenClaim := { program := "ytlkgdfeeepiidaa", sum := "7eb0d293d0c786594a3a61e75a1b907f96c6c0784e545b398f05727475fd0885", func := "emendation/emendationlaw06.MarksTurns", spec := "marksTurns", inPlace := ["internal/abi.NoEscape", "internal/bytealg.MakeNoZero", "internal/bytealg.IndexByteString"], unfollowed := true, recurses := true, apart := false, narrowed := true }
def MarksTurnsUptoSaid : Prop := marksTurnsUptoRow.holds Try.pinned (OpenSpec.upto marksTurnsSpec)

/-- 'emendationlaw04.LcsSelf', WHERE WHAT IT READS IS OF BULK AT MOST 1048576: true; the input reads as it did. -/
def lcsSelfUptoRow : OpenClaim := { program := "ytlkgdfeeepiidaa", sum := "7eb0d293d0c786594a3a61e75a1b907f96c6c0784e545b398f05727475fd0885", func := "emendation/emendationlaw04.LcsSelf", spec := "lcsSelf", unfollowed := true, recurses := true, apart := false, narrowed := true }
def LcsSelfUptoSaid : Prop := lcsSelfUptoRow.holds Try.pinned (OpenSpec.upto lcsSelfSpec)

/-- 'emendationlaw04.LcsBounds', WHERE WHAT IT READS IS OF BULK AT MOST 1048576: true; the input reads as it did. -/
def lcsBoundsUptoRow : OpenClaim := { program := "ytlkgdfeeepiidaa", sum := "7eb0d293d0c786594a3a61e75a1b907f96c6c0784e545b398f05727475fd0885", func := "emendation/emendationlaw04.LcsBounds", spec := "lcsBounds", unfollowed := true, recurses := true, apart := false, narrowed := true }
def LcsBoundsUptoSaid : Prop := lcsBoundsUptoRow.holds Try.pinned (OpenSpec.upto lcsBoundsSpec)

/-- 'emendationlaw03.TokenBack', WHERE WHAT IT READS IS OF BULK AT MOST 1048576: true; the input reads as it did. -/
def tokenBackUptoRow : OpenClaim := { program := "ytlkgdfeeepiidaa", sum := "7eb0d293d0c786594a3a61e75a1b907f96c6c0784e545b398f05727475fd0885", func := "emendation/emendationlaw03.TokenBack", spec := "tokenBack", inPlace := ["internal/abi.NoEscape", "internal/bytealg.MakeNoZero"], apart := false, narrowed := true }
def TokenBackUptoSaid : Prop := tokenBackUptoRow.holds Try.pinned (OpenSpec.upto tokenBackSpec)

/-- 'emendationlaw03.TokenParts', WHERE WHAT IT READS IS OF BULK AT MOST 1048576: true; the input reads as it did. -/
def tokenPartsUptoRow : OpenClaim := { program := "ytlkgdfeeepiidaa", sum := "7eb0d293d0c786594a3a61e75a1b907f96c6c0784e545b398f05727475fd0885", func := "emendation/emendationlaw03.TokenParts", spec := "tokenParts", inPlace := ["internal/abi.NoEscape", "internal/bytealg.MakeNoZero"], apart := false, narrowed := true }
def TokenPartsUptoSaid : Prop := tokenPartsUptoRow.holds Try.pinned (OpenSpec.upto tokenPartsSpec)

/-- 'emendationlaw05.WeaveTells', WHERE WHAT IT READS IS OF BULK AT MOST 1048576: true; the input reads as it did. -/
def weaveTellsUptoRow : OpenClaim := { program := "ytlkgdfeeepiidaa", sum := "7eb0d293d0c786594a3a61e75a1b907f96c6c0784e545b398f05727475fd0885", func := "emendation/emendationlaw05.WeaveTells", spec := "weaveTells", unfollowed := true, recurses := true, apart := false, narrowed := true }
def WeaveTellsUptoSaid : Prop := weaveTellsUptoRow.holds Try.pinned (OpenSpec.upto weaveTellsSpec)

/-- 'emendationlaw05.WeaveAll', WHERE WHAT IT READS IS OF BULK AT MOST 1048576: true; the input reads as it did. -/
def weaveAllUptoRow : OpenClaim := { program := "ytlkgdfeeepiidaa", sum := "7eb0d293d0c786594a3a61e75a1b907f96c6c0784e545b398f05727475fd0885", func := "emendation/emendationlaw05.WeaveAll", spec := "weaveAll", unfollowed := true, recurses := true, apart := false, narrowed := true }
def WeaveAllUptoSaid : Prop := weaveAllUptoRow.holds Try.pinned (OpenSpec.upto weaveAllSpec)

/-- 'emendationlaw05.WeaveOne', WHERE WHAT IT READS IS OF BULK AT MOST 1048576: true; the input reads as it did. -/
def weaveOneUptoRow : OpenClaim := { program := "ytlkgdfeeepiidaa", sum := "7eb0d293d0c786594a3a61e75a1b907f96c6c0784e545b398f05727475fd0885", func := "emendation/emendationlaw05.WeaveOne", spec := "weaveOne", unfollowed := true, recurses := true, apart := false, narrowed := true }
def WeaveOneUptoSaid : Prop := weaveOneUptoRow.holds Try.pinned (OpenSpec.upto weaveOneSpec)

/-- 'emendationlaw05.WeaveTurns', WHERE WHAT IT READS IS OF BULK AT MOST 1048576: true; the input reads as it did. -/
def weaveTurnsUptoRow : OpenClaim := { program := "ytlkgdfeeepiidaa", sum := "7eb0d293d0c786594a3a61e75a1b907f96c6c0784e545b398f05727475fd0885", func := "emendation/emendationlaw05.WeaveTurns", spec := "weaveTurns", unfollowed := true, recurses := true, apart := false, narrowed := true }
def WeaveTurnsUptoSaid : Prop := weaveTurnsUptoRow.holds Try.pinned (OpenSpec.upto weaveTurnsSpec)

/-- 'emendationlaw05.WeaveFar', WHERE WHAT IT READS IS OF BULK AT MOST 1048576: true; the input reads as it did. -/
def weaveFarUptoRow : OpenClaim := { program := "ytlkgdfeeepiidaa", sum := "7eb0d293d0c786594a3a61e75a1b907f96c6c0784e545b398f05727475fd0885", func := "emendation/emendationlaw05.WeaveFar", spec := "weaveFar", unfollowed := true, recurses := true, apart := false, narrowed := true }
def WeaveFarUptoSaid : Prop := weaveFarUptoRow.holds Try.pinned (OpenSpec.upto weaveFarSpec)

/-- 'emendationlaw05.WeaveNames', WHERE WHAT IT READS IS OF BULK AT MOST 1048576: true; the input reads as it did. -/
def weaveNamesUptoRow : OpenClaim := { program := "ytlkgdfeeepiidaa", sum := "7eb0d293d0c786594a3a61e75a1b907f96c6c0784e545b398f05727475fd0885", func := "emendation/emendationlaw05.WeaveNames", spec := "weaveNames", unfollowed := true, recurses := true, apart := false, narrowed := true }
def WeaveNamesUptoSaid : Prop := weaveNamesUptoRow.holds Try.pinned (OpenSpec.upto weaveNamesSpec)

/-- 'emendationlaw05.WeaveEnds', WHERE WHAT IT READS IS OF BULK AT MOST 1048576: true; the input reads as it did. -/
def weaveEndsUptoRow : OpenClaim := { program := "ytlkgdfeeepiidaa", sum := "7eb0d293d0c786594a3a61e75a1b907f96c6c0784e545b398f05727475fd0885", func := "emendation/emendationlaw05.WeaveEnds", spec := "weaveEnds", unfollowed := true, recurses := true, apart := false, narrowed := true }
def WeaveEndsUptoSaid : Prop := weaveEndsUptoRow.holds Try.pinned (OpenSpec.upto weaveEndsSpec)

/-- 'emendationlaw03.TokenIds', WHERE WHAT IT READS IS OF BULK AT MOST 1048576: true; the input reads as it did. -/
def tokenIdsUptoRow : OpenClaim := { program := "ytlkgdfeeepiidaa", sum := "7eb0d293d0c786594a3a61e75a1b907f96c6c0784e545b398f05727475fd0885", func := "emendation/emendationlaw03.TokenIds", spec := "tokenIds", recurses := true, apart := false, narrowed := true }
def TokenIdsUptoSaid : Prop := tokenIdsUptoRow.holds Try.pinned (OpenSpec.upto tokenIdsSpec)

/-- 'emendationlaw03.TokenSame', WHERE WHAT IT READS IS OF BULK AT MOST 1048576: true; the input reads as it did. -/
def tokenSameUptoRow : OpenClaim := { program := "ytlkgdfeeepiidaa", sum := "7eb0d293d0c786594a3a61e75a1b907f96c6c0784e545b398f05727475fd0885", func := "emendation/emendationlaw03.TokenSame", spec := "tokenSame", recurses := true, apart := false, narrowed := true }
def TokenSameUptoSaid : Prop := tokenSameUptoRow.holds Try.pinned (OpenSpec.upto tokenSameSpec)

/-- 'emendationlaw03.TokenLists', WHERE WHAT IT READS IS OF BULK AT MOST 1048576: true; the input reads as it did. -/
def tokenListsUptoRow : OpenClaim := { program := "ytlkgdfeeepiidaa", sum := "7eb0d293d0c786594a3a61e75a1b907f96c6c0784e545b398f05727475fd0885", func := "emendation/emendationlaw03.TokenLists", spec := "tokenLists", recurses := true, apart := false, narrowed := true }
def TokenListsUptoSaid : Prop := tokenListsUptoRow.holds Try.pinned (OpenSpec.upto tokenListsSpec)

/-- 'emendationlaw06.MarksBack', WHERE WHAT IT READS IS OF BULK AT MOST 1048576: true; the input reads as it did. -/
def marksBackUptoRow : OpenClaim := { program := "ytlkgdfeeepiidaa", sum := "7eb0d293d0c786594a3a61e75a1b907f96c6c0784e545b398f05727475fd0885", func := "emendation/emendationlaw06.MarksBack", spec := "marksBack", inPlace := ["internal/abi.NoEscape", "internal/bytealg.MakeNoZero", "internal/bytealg.IndexByteString"], unfollowed := true, recurses := true, apart := false, narrowed := true }
def MarksBackUptoSaid : Prop := marksBackUptoRow.holds Try.pinned (OpenSpec.upto marksBackSpec)

end Rows
end Go.Proofs.Ytlkgdfeeepiidaa
