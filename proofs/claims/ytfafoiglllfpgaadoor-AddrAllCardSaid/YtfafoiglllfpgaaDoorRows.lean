/-
  NARROWER THAN 'FOR EVERY INPUT', by the rows' own cells (each row's printed sentence says how): PrefixNest: laid · PrefixMasks: laid · AddrBack: laid · AddrParts: laid · PrefixCommon: laid · PrefixEnds: laid · PrefixOrder: laid · AddrAll: laid · AddrCommon: laid · AddrTurns: laid · PrefixHalves: laid · PrefixTexts: laid · PrefixAll: laid.
  DERIVED. THE GIVEN ROWS OF THIS SEAT. 13 by the template 'for every input the law returns true; each argument reads behind the call as it read before'; 0 by the template 'total and deterministic' (their statements: YtfafoiglllfpgaaDoorTotals.lean).
  GIVEN WITH THE SEED: the statements are not yours to turn. If you find one false, say at which input.
  Laid BY PROGRAM, IN A SANDBOX (cutbox-rows.mjs): the forced cells as the released guide's own fill.sh prints them over the translation c100ccc4d6826aad… (all of the seat's roots in one cut). By AI agents, Wed Nov 11 2026. No macro, syntax, notation, axiom, sorry.
-/
import Derived.Test.YtfafoiglllfpgaaDoorChecked
import GoSem.Claim
import GoSem.ClaimJoined
import GoSem.ClaimMapViews
import Derived.JoinedTies
import Derived.KernelRfl
namespace Go.Proofs.YtfafoiglllfpgaaDoor
/- THE CELL 'sum', in the pinned program and in every row, IS THE sha256 OF THE DUMP (.gsa) THAT YtfafoiglllfpgaaDoorProg.lean LOADS. Nothing in Lean hashes anything: it is a label: what it is worth is what the hold of that sum in a sandbox is worth. -/
noncomputable def Tryd.pinned : Pinned := { name := "ytfafoiglllfpgaadoor", sum := "c100ccc4d6826aadb438ef3af4b6c8d91d66b0b8cdfc0f851cad66686e84b480", checked := Tryd.checked }
namespace Rows
def none {H : Type} : Left H := { results := [], args := [] }

/- WHAT THE LISTED PACKAGE-LEVEL VARIABLES READ AS WHEN THE CALL BEGINS. Each datum BY PROGRAM (the guide's laid-datum.mjs) off the statement by which the dump's own 'gosem.cut.vars' lays the variable. In a bare row this is a premise. The card (YtfafoiglllfpgaaDoorCards.lean) ties it to the program's text. -/
def laid_math_bits_deBruijn32tab {H : Type} : DataW H := .agg [.lit (.int .u8 0), .lit (.int .u8 1), .lit (.int .u8 28), .lit (.int .u8 2), .lit (.int .u8 29), .lit (.int .u8 14), .lit (.int .u8 24), .lit (.int .u8 3), .lit (.int .u8 30), .lit (.int .u8 22), .lit (.int .u8 20), .lit (.int .u8 15), .lit (.int .u8 25), .lit (.int .u8 17), .lit (.int .u8 4), .lit (.int .u8 8), .lit (.int .u8 31), .lit (.int .u8 27), .lit (.int .u8 13), .lit (.int .u8 23), .lit (.int .u8 21), .lit (.int .u8 19), .lit (.int .u8 16), .lit (.int .u8 7), .lit (.int .u8 26), .lit (.int .u8 12), .lit (.int .u8 18), .lit (.int .u8 6), .lit (.int .u8 11), .lit (.int .u8 5), .lit (.int .u8 10), .lit (.int .u8 9)]
def laid_math_bits_deBruijn64tab {H : Type} : DataW H := .agg [.lit (.int .u8 0), .lit (.int .u8 1), .lit (.int .u8 56), .lit (.int .u8 2), .lit (.int .u8 57), .lit (.int .u8 49), .lit (.int .u8 28), .lit (.int .u8 3), .lit (.int .u8 61), .lit (.int .u8 58), .lit (.int .u8 42), .lit (.int .u8 50), .lit (.int .u8 38), .lit (.int .u8 29), .lit (.int .u8 17), .lit (.int .u8 4), .lit (.int .u8 62), .lit (.int .u8 47), .lit (.int .u8 59), .lit (.int .u8 36), .lit (.int .u8 45), .lit (.int .u8 43), .lit (.int .u8 51), .lit (.int .u8 22), .lit (.int .u8 53), .lit (.int .u8 39), .lit (.int .u8 33), .lit (.int .u8 30), .lit (.int .u8 24), .lit (.int .u8 18), .lit (.int .u8 12), .lit (.int .u8 5), .lit (.int .u8 63), .lit (.int .u8 55), .lit (.int .u8 48), .lit (.int .u8 27), .lit (.int .u8 60), .lit (.int .u8 41), .lit (.int .u8 37), .lit (.int .u8 16), .lit (.int .u8 46), .lit (.int .u8 35), .lit (.int .u8 44), .lit (.int .u8 21), .lit (.int .u8 52), .lit (.int .u8 32), .lit (.int .u8 23), .lit (.int .u8 11), .lit (.int .u8 54), .lit (.int .u8 26), .lit (.int .u8 40), .lit (.int .u8 15), .lit (.int .u8 34), .lit (.int .u8 20), .lit (.int .u8 31), .lit (.int .u8 10), .lit (.int .u8 25), .lit (.int .u8 14), .lit (.int .u8 19), .lit (.int .u8 9), .lit (.int .u8 13), .lit (.int .u8 8), .lit (.int .u8 7), .lit (.int .u8 6)]
def laid_internal_strconv_uint64pow10 {H : Type} : DataW H := .agg [.lit (.int .u64 1), .lit (.int .u64 10), .lit (.int .u64 100), .lit (.int .u64 1000), .lit (.int .u64 10000), .lit (.int .u64 100000), .lit (.int .u64 1000000), .lit (.int .u64 10000000), .lit (.int .u64 100000000), .lit (.int .u64 1000000000), .lit (.int .u64 10000000000), .lit (.int .u64 100000000000), .lit (.int .u64 1000000000000), .lit (.int .u64 10000000000000), .lit (.int .u64 100000000000000), .lit (.int .u64 1000000000000000), .lit (.int .u64 10000000000000000), .lit (.int .u64 100000000000000000), .lit (.int .u64 1000000000000000000), .lit (.int .u64 10000000000000000000)]

/-- 'theseuslaw06.PrefixNest': WHATEVER THE INPUT: true; the input reads as it did. -/
def prefixNestSpec : ChangeSpec := { name := "prefixNest", fn := fun _ => fun
  | [d1, d2, d3] => { results := [.lit (.bool true)], args := [d1, d2, d3] }
  | _ => none }
def prefixNestRow : OpenClaim := { program := "ytfafoiglllfpgaadoor", sum := "c100ccc4d6826aadb438ef3af4b6c8d91d66b0b8cdfc0f851cad66686e84b480", func := "theseus/theseuslaw06.PrefixNest", spec := "prefixNest", named := ["internal/strconv.uint64pow10", "math/bits.deBruijn32tab", "math/bits.deBruijn64tab"], apart := false, laid := [("math/bits.deBruijn32tab", laid_math_bits_deBruijn32tab), ("math/bits.deBruijn64tab", laid_math_bits_deBruijn64tab), ("internal/strconv.uint64pow10", laid_internal_strconv_uint64pow10)] }
def PrefixNestSaid : Prop := prefixNestRow.holds Tryd.pinned (OpenSpec.ofChange prefixNestSpec)

/-- ITS FALSE NEIGHBOUR: 'it returns false'. Refute it at one input. -/
def prefixNestWrong : ChangeSpec := { name := "prefixNest", fn := fun _ => fun
  | [d1, d2, d3] => { results := [.lit (.bool false)], args := [d1, d2, d3] }
  | _ => none }
def PrefixNestWrongFalsely : Prop := prefixNestRow.holds Tryd.pinned (OpenSpec.ofChange prefixNestWrong)

/-- 'theseuslaw06.PrefixMasks': WHATEVER THE INPUT: true; the input reads as it did. -/
def prefixMasksSpec : ChangeSpec := { name := "prefixMasks", fn := fun _ => fun
  | [d1, d2, d3] => { results := [.lit (.bool true)], args := [d1, d2, d3] }
  | _ => none }
def prefixMasksRow : OpenClaim := { program := "ytfafoiglllfpgaadoor", sum := "c100ccc4d6826aadb438ef3af4b6c8d91d66b0b8cdfc0f851cad66686e84b480", func := "theseus/theseuslaw06.PrefixMasks", spec := "prefixMasks", named := ["internal/strconv.uint64pow10", "math/bits.deBruijn32tab", "math/bits.deBruijn64tab"], apart := false, laid := [("math/bits.deBruijn32tab", laid_math_bits_deBruijn32tab), ("math/bits.deBruijn64tab", laid_math_bits_deBruijn64tab), ("internal/strconv.uint64pow10", laid_internal_strconv_uint64pow10)] }
def PrefixMasksSaid : Prop := prefixMasksRow.holds Tryd.pinned (OpenSpec.ofChange prefixMasksSpec)

/-- ITS FALSE NEIGHBOUR: 'it returns false'. Refute it at one input. -/
def prefixMasksWrong : ChangeSpec := { name := "prefixMasks", fn := fun _ => fun
  | [d1, d2, d3] => { results := [.lit (.bool false)], args := [d1, d2, d3] }
  | _ => none }
def PrefixMasksWrongFalsely : Prop := prefixMasksRow.holds Tryd.pinned (OpenSpec.ofChange prefixMasksWrong)

/-- 'theseuslaw05.AddrBack': WHATEVER THE INPUT: true; the input reads as it did. -/
def addrBackSpec : ChangeSpec := { name := "addrBack", fn := fun _ => fun
  | [d1, d2] => { results := [.lit (.bool true)], args := [d1, d2] }
  | _ => none }
def addrBackRow : OpenClaim := { program := "ytfafoiglllfpgaadoor", sum := "c100ccc4d6826aadb438ef3af4b6c8d91d66b0b8cdfc0f851cad66686e84b480", func := "theseus/theseuslaw05.AddrBack", spec := "addrBack", named := ["internal/strconv.uint64pow10", "math/bits.deBruijn32tab", "math/bits.deBruijn64tab"], apart := false, laid := [("math/bits.deBruijn32tab", laid_math_bits_deBruijn32tab), ("math/bits.deBruijn64tab", laid_math_bits_deBruijn64tab), ("internal/strconv.uint64pow10", laid_internal_strconv_uint64pow10)] }
def AddrBackSaid : Prop := addrBackRow.holds Tryd.pinned (OpenSpec.ofChange addrBackSpec)

/-- ITS FALSE NEIGHBOUR: 'it returns false'. Refute it at one input. -/
def addrBackWrong : ChangeSpec := { name := "addrBack", fn := fun _ => fun
  | [d1, d2] => { results := [.lit (.bool false)], args := [d1, d2] }
  | _ => none }
def AddrBackWrongFalsely : Prop := addrBackRow.holds Tryd.pinned (OpenSpec.ofChange addrBackWrong)

/-- 'theseuslaw05.AddrParts': WHATEVER THE INPUT: true; the input reads as it did. -/
def addrPartsSpec : ChangeSpec := { name := "addrParts", fn := fun _ => fun
  | [d1, d2, d3] => { results := [.lit (.bool true)], args := [d1, d2, d3] }
  | _ => none }
def addrPartsRow : OpenClaim := { program := "ytfafoiglllfpgaadoor", sum := "c100ccc4d6826aadb438ef3af4b6c8d91d66b0b8cdfc0f851cad66686e84b480", func := "theseus/theseuslaw05.AddrParts", spec := "addrParts", named := ["internal/strconv.uint64pow10", "math/bits.deBruijn32tab", "math/bits.deBruijn64tab"], apart := false, laid := [("math/bits.deBruijn32tab", laid_math_bits_deBruijn32tab), ("math/bits.deBruijn64tab", laid_math_bits_deBruijn64tab), ("internal/strconv.uint64pow10", laid_internal_strconv_uint64pow10)] }
def AddrPartsSaid : Prop := addrPartsRow.holds Tryd.pinned (OpenSpec.ofChange addrPartsSpec)

/-- ITS FALSE NEIGHBOUR: 'it returns false'. Refute it at one input. -/
def addrPartsWrong : ChangeSpec := { name := "addrParts", fn := fun _ => fun
  | [d1, d2, d3] => { results := [.lit (.bool false)], args := [d1, d2, d3] }
  | _ => none }
def AddrPartsWrongFalsely : Prop := addrPartsRow.holds Tryd.pinned (OpenSpec.ofChange addrPartsWrong)

/-- 'theseuslaw06.PrefixCommon': WHATEVER THE INPUT: true; the input reads as it did. -/
def prefixCommonSpec : ChangeSpec := { name := "prefixCommon", fn := fun _ => fun
  | [d1, d2, d3] => { results := [.lit (.bool true)], args := [d1, d2, d3] }
  | _ => none }
def prefixCommonRow : OpenClaim := { program := "ytfafoiglllfpgaadoor", sum := "c100ccc4d6826aadb438ef3af4b6c8d91d66b0b8cdfc0f851cad66686e84b480", func := "theseus/theseuslaw06.PrefixCommon", spec := "prefixCommon", named := ["internal/strconv.uint64pow10", "math/bits.deBruijn32tab", "math/bits.deBruijn64tab"], apart := false, laid := [("math/bits.deBruijn32tab", laid_math_bits_deBruijn32tab), ("math/bits.deBruijn64tab", laid_math_bits_deBruijn64tab), ("internal/strconv.uint64pow10", laid_internal_strconv_uint64pow10)] }
def PrefixCommonSaid : Prop := prefixCommonRow.holds Tryd.pinned (OpenSpec.ofChange prefixCommonSpec)

/-- ITS FALSE NEIGHBOUR: 'it returns false'. Refute it at one input. -/
def prefixCommonWrong : ChangeSpec := { name := "prefixCommon", fn := fun _ => fun
  | [d1, d2, d3] => { results := [.lit (.bool false)], args := [d1, d2, d3] }
  | _ => none }
def PrefixCommonWrongFalsely : Prop := prefixCommonRow.holds Tryd.pinned (OpenSpec.ofChange prefixCommonWrong)

/-- 'theseuslaw06.PrefixEnds': WHATEVER THE INPUT: true; the input reads as it did. -/
def prefixEndsSpec : ChangeSpec := { name := "prefixEnds", fn := fun _ => fun
  | [d1, d2, d3] => { results := [.lit (.bool true)], args := [d1, d2, d3] }
  | _ => none }
def prefixEndsRow : OpenClaim := { program := "ytfafoiglllfpgaadoor", sum := "c100ccc4d6826aadb438ef3af4b6c8d91d66b0b8cdfc0f851cad66686e84b480", func := "theseus/theseuslaw06.PrefixEnds", spec := "prefixEnds", named := ["internal/strconv.uint64pow10", "math/bits.deBruijn32tab", "math/bits.deBruijn64tab"], apart := false, laid := [("math/bits.deBruijn32tab", laid_math_bits_deBruijn32tab), ("math/bits.deBruijn64tab", laid_math_bits_deBruijn64tab), ("internal/strconv.uint64pow10", laid_internal_strconv_uint64pow10)] }
def PrefixEndsSaid : Prop := prefixEndsRow.holds Tryd.pinned (OpenSpec.ofChange prefixEndsSpec)

/-- ITS FALSE NEIGHBOUR: 'it returns false'. Refute it at one input. -/
def prefixEndsWrong : ChangeSpec := { name := "prefixEnds", fn := fun _ => fun
  | [d1, d2, d3] => { results := [.lit (.bool false)], args := [d1, d2, d3] }
  | _ => none }
def PrefixEndsWrongFalsely : Prop := prefixEndsRow.holds Tryd.pinned (OpenSpec.ofChange prefixEndsWrong)

/-- 'theseuslaw06.PrefixOrder': WHATEVER THE INPUT: true; the input reads as it did. -/
def prefixOrderSpec : ChangeSpec := { name := "prefixOrder", fn := fun _ => fun
  | [d1, d2] => { results := [.lit (.bool true)], args := [d1, d2] }
  | _ => none }
def prefixOrderRow : OpenClaim := { program := "ytfafoiglllfpgaadoor", sum := "c100ccc4d6826aadb438ef3af4b6c8d91d66b0b8cdfc0f851cad66686e84b480", func := "theseus/theseuslaw06.PrefixOrder", spec := "prefixOrder", named := ["internal/strconv.uint64pow10", "math/bits.deBruijn32tab", "math/bits.deBruijn64tab"], apart := false, laid := [("math/bits.deBruijn32tab", laid_math_bits_deBruijn32tab), ("math/bits.deBruijn64tab", laid_math_bits_deBruijn64tab), ("internal/strconv.uint64pow10", laid_internal_strconv_uint64pow10)] }
def PrefixOrderSaid : Prop := prefixOrderRow.holds Tryd.pinned (OpenSpec.ofChange prefixOrderSpec)

/-- ITS FALSE NEIGHBOUR: 'it returns false'. Refute it at one input. -/
def prefixOrderWrong : ChangeSpec := { name := "prefixOrder", fn := fun _ => fun
  | [d1, d2] => { results := [.lit (.bool false)], args := [d1, d2] }
  | _ => none }
def PrefixOrderWrongFalsely : Prop := prefixOrderRow.holds Tryd.pinned (OpenSpec.ofChange prefixOrderWrong)

/-- 'theseuslaw05.AddrAll': WHATEVER THE INPUT: true; the input reads as it did. -/
def addrAllSpec : ChangeSpec := { name := "addrAll", fn := fun _ => fun
  | [d1, d2, d3] => { results := [.lit (.bool true)], args := [d1, d2, d3] }
  | _ => none }
def addrAllRow : OpenClaim := { program := "ytfafoiglllfpgaadoor", sum := "c100ccc4d6826aadb438ef3af4b6c8d91d66b0b8cdfc0f851cad66686e84b480", func := "theseus/theseuslaw05.AddrAll", spec := "addrAll", named := ["internal/strconv.uint64pow10", "math/bits.deBruijn32tab", "math/bits.deBruijn64tab"], apart := false, laid := [("math/bits.deBruijn32tab", laid_math_bits_deBruijn32tab), ("math/bits.deBruijn64tab", laid_math_bits_deBruijn64tab), ("internal/strconv.uint64pow10", laid_internal_strconv_uint64pow10)] }
def AddrAllSaid : Prop := addrAllRow.holds Tryd.pinned (OpenSpec.ofChange addrAllSpec)

/-- ITS FALSE NEIGHBOUR: 'it returns false'. Refute it at one input. -/
def addrAllWrong : ChangeSpec := { name := "addrAll", fn := fun _ => fun
  | [d1, d2, d3] => { results := [.lit (.bool false)], args := [d1, d2, d3] }
  | _ => none }
def AddrAllWrongFalsely : Prop := addrAllRow.holds Tryd.pinned (OpenSpec.ofChange addrAllWrong)

/-- 'theseuslaw05.AddrCommon': WHATEVER THE INPUT: true; the input reads as it did. -/
def addrCommonSpec : ChangeSpec := { name := "addrCommon", fn := fun _ => fun
  | [d1, d2] => { results := [.lit (.bool true)], args := [d1, d2] }
  | _ => none }
def addrCommonRow : OpenClaim := { program := "ytfafoiglllfpgaadoor", sum := "c100ccc4d6826aadb438ef3af4b6c8d91d66b0b8cdfc0f851cad66686e84b480", func := "theseus/theseuslaw05.AddrCommon", spec := "addrCommon", named := ["internal/strconv.uint64pow10", "math/bits.deBruijn32tab", "math/bits.deBruijn64tab"], apart := false, laid := [("math/bits.deBruijn32tab", laid_math_bits_deBruijn32tab), ("math/bits.deBruijn64tab", laid_math_bits_deBruijn64tab), ("internal/strconv.uint64pow10", laid_internal_strconv_uint64pow10)] }
def AddrCommonSaid : Prop := addrCommonRow.holds Tryd.pinned (OpenSpec.ofChange addrCommonSpec)

/-- ITS FALSE NEIGHBOUR: 'it returns false'. Refute it at one input. -/
def addrCommonWrong : ChangeSpec := { name := "addrCommon", fn := fun _ => fun
  | [d1, d2] => { results := [.lit (.bool false)], args := [d1, d2] }
  | _ => none }
def AddrCommonWrongFalsely : Prop := addrCommonRow.holds Tryd.pinned (OpenSpec.ofChange addrCommonWrong)

/-- 'theseuslaw05.AddrTurns': WHATEVER THE INPUT: true; the input reads as it did. -/
def addrTurnsSpec : ChangeSpec := { name := "addrTurns", fn := fun _ => fun
  | [d1, d2] => { results := [.lit (.bool true)], args := [d1, d2] }
  | _ => none }
def addrTurnsRow : OpenClaim := { program := "ytfafoiglllfpgaadoor", sum := "c100ccc4d6826aadb438ef3af4b6c8d91d66b0b8cdfc0f851cad66686e84b480", func := "theseus/theseuslaw05.AddrTurns", spec := "addrTurns", named := ["internal/strconv.uint64pow10", "math/bits.deBruijn32tab", "math/bits.deBruijn64tab"], apart := false, laid := [("math/bits.deBruijn32tab", laid_math_bits_deBruijn32tab), ("math/bits.deBruijn64tab", laid_math_bits_deBruijn64tab), ("internal/strconv.uint64pow10", laid_internal_strconv_uint64pow10)] }
def AddrTurnsSaid : Prop := addrTurnsRow.holds Tryd.pinned (OpenSpec.ofChange addrTurnsSpec)

/-- ITS FALSE NEIGHBOUR: 'it returns false'. Refute it at one input. -/
def addrTurnsWrong : ChangeSpec := { name := "addrTurns", fn := fun _ => fun
  | [d1, d2] => { results := [.lit (.bool false)], args := [d1, d2] }
  | _ => none }
def AddrTurnsWrongFalsely : Prop := addrTurnsRow.holds Tryd.pinned (OpenSpec.ofChange addrTurnsWrong)

/-- 'theseuslaw06.PrefixHalves': WHATEVER THE INPUT: true; the input reads as it did. -/
def prefixHalvesSpec : ChangeSpec := { name := "prefixHalves", fn := fun _ => fun
  | [d1, d2, d3] => { results := [.lit (.bool true)], args := [d1, d2, d3] }
  | _ => none }
def prefixHalvesRow : OpenClaim := { program := "ytfafoiglllfpgaadoor", sum := "c100ccc4d6826aadb438ef3af4b6c8d91d66b0b8cdfc0f851cad66686e84b480", func := "theseus/theseuslaw06.PrefixHalves", spec := "prefixHalves", named := ["internal/strconv.uint64pow10", "math/bits.deBruijn32tab", "math/bits.deBruijn64tab"], apart := false, laid := [("math/bits.deBruijn32tab", laid_math_bits_deBruijn32tab), ("math/bits.deBruijn64tab", laid_math_bits_deBruijn64tab), ("internal/strconv.uint64pow10", laid_internal_strconv_uint64pow10)] }
def PrefixHalvesSaid : Prop := prefixHalvesRow.holds Tryd.pinned (OpenSpec.ofChange prefixHalvesSpec)

/-- ITS FALSE NEIGHBOUR: 'it returns false'. Refute it at one input. -/
def prefixHalvesWrong : ChangeSpec := { name := "prefixHalves", fn := fun _ => fun
  | [d1, d2, d3] => { results := [.lit (.bool false)], args := [d1, d2, d3] }
  | _ => none }
def PrefixHalvesWrongFalsely : Prop := prefixHalvesRow.holds Tryd.pinned (OpenSpec.ofChange prefixHalvesWrong)

/-- 'theseuslaw06.PrefixTexts': WHATEVER THE INPUT: true; the input reads as it did. -/
def prefixTextsSpec : ChangeSpec := { name := "prefixTexts", fn := fun _ => fun
  | [d1, d2, d3] => { results := [.lit (.bool true)], args := [d1, d2, d3] }
  | _ => none }
def prefixTextsRow : OpenClaim := { program := "ytfafoiglllfpgaadoor", sum := "c100ccc4d6826aadb438ef3af4b6c8d91d66b0b8cdfc0f851cad66686e84b480", func := "theseus/theseuslaw06.PrefixTexts", spec := "prefixTexts", inPlace := ["internal/bytealg.IndexByteString", "internal/bytealg.IndexString"], unfollowed := true, recurses := true, named := ["internal/strconv.uint64pow10", "math/bits.deBruijn32tab", "math/bits.deBruijn64tab", "internal/bytealg.MaxLen"], apart := false, laid := [("math/bits.deBruijn32tab", laid_math_bits_deBruijn32tab), ("math/bits.deBruijn64tab", laid_math_bits_deBruijn64tab), ("internal/strconv.uint64pow10", laid_internal_strconv_uint64pow10)] }
def PrefixTextsSaid : Prop := prefixTextsRow.holds Tryd.pinned (OpenSpec.ofChange prefixTextsSpec)

/-- ITS FALSE NEIGHBOUR: 'it returns false'. Refute it at one input. -/
def prefixTextsWrong : ChangeSpec := { name := "prefixTexts", fn := fun _ => fun
  | [d1, d2, d3] => { results := [.lit (.bool false)], args := [d1, d2, d3] }
  | _ => none }
def PrefixTextsWrongFalsely : Prop := prefixTextsRow.holds Tryd.pinned (OpenSpec.ofChange prefixTextsWrong)

/-- 'theseuslaw06.PrefixAll': WHATEVER THE INPUT: true; the input reads as it did. -/
def prefixAllSpec : ChangeSpec := { name := "prefixAll", fn := fun _ => fun
  | [d1, d2, d3] => { results := [.lit (.bool true)], args := [d1, d2, d3] }
  | _ => none }
def prefixAllRow : OpenClaim := { program := "ytfafoiglllfpgaadoor", sum := "c100ccc4d6826aadb438ef3af4b6c8d91d66b0b8cdfc0f851cad66686e84b480", func := "theseus/theseuslaw06.PrefixAll", spec := "prefixAll", inPlace := ["internal/bytealg.IndexByteString", "internal/bytealg.IndexString"], unfollowed := true, recurses := true, named := ["internal/strconv.uint64pow10", "math/bits.deBruijn32tab", "math/bits.deBruijn64tab", "internal/bytealg.MaxLen"], apart := false, laid := [("math/bits.deBruijn32tab", laid_math_bits_deBruijn32tab), ("math/bits.deBruijn64tab", laid_math_bits_deBruijn64tab), ("internal/strconv.uint64pow10", laid_internal_strconv_uint64pow10)] }
def PrefixAllSaid : Prop := prefixAllRow.holds Tryd.pinned (OpenSpec.ofChange prefixAllSpec)

/-- ITS FALSE NEIGHBOUR: 'it returns false'. Refute it at one input. -/
def prefixAllWrong : ChangeSpec := { name := "prefixAll", fn := fun _ => fun
  | [d1, d2, d3] => { results := [.lit (.bool false)], args := [d1, d2, d3] }
  | _ => none }
def PrefixAllWrongFalsely : Prop := prefixAllRow.holds Tryd.pinned (OpenSpec.ofChange prefixAllWrong)

/- THE SECOND FORM. 'bulk': how many values and letters a reading holds, each counted each time it is reached (what is shared counts as often as it is met; a slice's spare places count too). A statement '..UptoSaid' is the law's where the arguments, and the package variables that the reading takes, are together of bulk at most 1048576: NARROWER than '..Said'. Prove '..Said' where nothing that the law and all that it calls make is longer than what came in: it says more and counts as full. Else prove '..UptoSaid'. A law counts once. -/
mutual
def uptoBulk {H : Type} : DataW H → Nat
  | .lit (.string bytes) => bytes.length + 1
  | .lit _ => 1
  | .nil => 1
  | .ptr d => uptoBulk d + 1
  | .slice elems spare => uptoBulkAll elems + uptoBulkAll spare + 1
  | .agg parts => uptoBulkAll parts + 1
  | .iface _ d => uptoBulk d + 1
  | .map entries => uptoBulkEntries entries + 1
  | .held _ => 1
def uptoBulkAll {H : Type} : List (DataW H) → Nat
  | [] => 0
  | d :: r => uptoBulk d + uptoBulkAll r
def uptoBulkEntries {H : Type} : List (Lit × DataW H) → Nat
  | [] => 0
  | x :: r => uptoBulkEntry x + uptoBulkEntries r
def uptoBulkEntry {H : Type} : Lit × DataW H → Nat
  | (.string bytes, d) => bytes.length + uptoBulk d + 1
  | (_, d) => uptoBulk d + 1
 end
def uptoSmall : (H : Type) → List (DataW H) → Bool := fun _ ds => decide (uptoBulkAll ds ≤ 1048576)
def OpenSpec.upto (s : _root_.Go.ChangeSpec) : _root_.Go.OpenSpec := { _root_.Go.OpenSpec.ofChange s with cond := some uptoSmall }

/-- 'theseuslaw06.PrefixNest', WHERE WHAT IT READS IS OF BULK AT MOST 1048576: true; the input reads as it did. -/
def prefixNestUptoRow : OpenClaim := { program := "ytfafoiglllfpgaadoor", sum := "c100ccc4d6826aadb438ef3af4b6c8d91d66b0b8cdfc0f851cad66686e84b480", func := "theseus/theseuslaw06.PrefixNest", spec := "prefixNest", named := ["internal/strconv.uint64pow10", "math/bits.deBruijn32tab", "math/bits.deBruijn64tab"], apart := false, laid := [("math/bits.deBruijn32tab", laid_math_bits_deBruijn32tab), ("math/bits.deBruijn64tab", laid_math_bits_deBruijn64tab), ("internal/strconv.uint64pow10", laid_internal_strconv_uint64pow10)], narrowed := true }
def PrefixNestUptoSaid : Prop := prefixNestUptoRow.holds Tryd.pinned (OpenSpec.upto prefixNestSpec)

/-- 'theseuslaw06.PrefixMasks', WHERE WHAT IT READS IS OF BULK AT MOST 1048576: true; the input reads as it did. -/
def prefixMasksUptoRow : OpenClaim := { program := "ytfafoiglllfpgaadoor", sum := "c100ccc4d6826aadb438ef3af4b6c8d91d66b0b8cdfc0f851cad66686e84b480", func := "theseus/theseuslaw06.PrefixMasks", spec := "prefixMasks", named := ["internal/strconv.uint64pow10", "math/bits.deBruijn32tab", "math/bits.deBruijn64tab"], apart := false, laid := [("math/bits.deBruijn32tab", laid_math_bits_deBruijn32tab), ("math/bits.deBruijn64tab", laid_math_bits_deBruijn64tab), ("internal/strconv.uint64pow10", laid_internal_strconv_uint64pow10)], narrowed := true }
def PrefixMasksUptoSaid : Prop := prefixMasksUptoRow.holds Tryd.pinned (OpenSpec.upto prefixMasksSpec)

/-- 'theseuslaw05.AddrBack', WHERE WHAT IT READS IS OF BULK AT MOST 1048576: true; the input reads as it did. -/
def addrBackUptoRow : OpenClaim := { program := "ytfafoiglllfpgaadoor", sum := "c100ccc4d6826aadb438ef3af4b6c8d91d66b0b8cdfc0f851cad66686e84b480", func := "theseus/theseuslaw05.AddrBack", spec := "addrBack", named := ["internal/strconv.uint64pow10", "math/bits.deBruijn32tab", "math/bits.deBruijn64tab"], apart := false, laid := [("math/bits.deBruijn32tab", laid_math_bits_deBruijn32tab), ("math/bits.deBruijn64tab", laid_math_bits_deBruijn64tab), ("internal/strconv.uint64pow10", laid_internal_strconv_uint64pow10)], narrowed := true }
def AddrBackUptoSaid : Prop := addrBackUptoRow.holds Tryd.pinned (OpenSpec.upto addrBackSpec)

/-- 'theseuslaw05.AddrParts', WHERE WHAT IT READS IS OF BULK AT MOST 1048576: true; the input reads as it did. -/
def addrPartsUptoRow : OpenClaim := { program := "ytfafoiglllfpgaadoor", sum := "c100ccc4d6826aadb438ef3af4b6c8d91d66b0b8cdfc0f851cad66686e84b480", func := "theseus/theseuslaw05.AddrParts", spec := "addrParts", named := ["internal/strconv.uint64pow10", "math/bits.deBruijn32tab", "math/bits.deBruijn64tab"], apart := false, laid := [("math/bits.deBruijn32tab", laid_math_bits_deBruijn32tab), ("math/bits.deBruijn64tab", laid_math_bits_deBruijn64tab), ("internal/strconv.uint64pow10", laid_internal_strconv_uint64pow10)], narrowed := true }
def AddrPartsUptoSaid : Prop := addrPartsUptoRow.holds Tryd.pinned (OpenSpec.upto addrPartsSpec)

/-- 'theseuslaw06.PrefixCommon', WHERE WHAT IT READS IS OF BULK AT MOST 1048576: true; the input reads as it did. -/
def prefixCommonUptoRow : OpenClaim := { program := "ytfafoiglllfpgaadoor", sum := "c100ccc4d6826aadb438ef3af4b6c8d91d66b0b8cdfc0f851cad66686e84b480", func := "theseus/theseuslaw06.PrefixCommon", spec := "prefixCommon", named := ["internal/strconv.uint64pow10", "math/bits.deBruijn32tab", "math/bits.deBruijn64tab"], apart := false, laid := [("math/bits.deBruijn32tab", laid_math_bits_deBruijn32tab), ("math/bits.deBruijn64tab", laid_math_bits_deBruijn64tab), ("internal/strconv.uint64pow10", laid_internal_strconv_uint64pow10)], narrowed := true }
def PrefixCommonUptoSaid : Prop := prefixCommonUptoRow.holds Tryd.pinned (OpenSpec.upto prefixCommonSpec)

/-- 'theseuslaw06.PrefixEnds', WHERE WHAT IT READS IS OF BULK AT MOST 1048576: true; the input reads as it did. -/
def prefixEndsUptoRow : OpenClaim := { program := "ytfafoiglllfpgaadoor", sum := "c100ccc4d6826aadb438ef3af4b6c8d91d66b0b8cdfc0f851cad66686e84b480", func := "theseus/theseuslaw06.PrefixEnds", spec := "prefixEnds", named := ["internal/strconv.uint64pow10", "math/bits.deBruijn32tab", "math/bits.deBruijn64tab"], apart := false, laid := [("math/bits.deBruijn32tab", laid_math_bits_deBruijn32tab), ("math/bits.deBruijn64tab", laid_math_bits_deBruijn64tab), ("internal/strconv.uint64pow10", laid_internal_strconv_uint64pow10)], narrowed := true }
def PrefixEndsUptoSaid : Prop := prefixEndsUptoRow.holds Tryd.pinned (OpenSpec.upto prefixEndsSpec)

/-- 'theseuslaw06.PrefixOrder', WHERE WHAT IT READS IS OF BULK AT MOST 1048576: true; the input reads as it did. -/
def prefixOrderUptoRow : OpenClaim := { program := "ytfafoiglllfpgaadoor", sum := "c100ccc4d6826aadb438ef3af4b6c8d91d66b0b8cdfc0f851cad66686e84b480", func := "theseus/theseuslaw06.PrefixOrder", spec := "prefixOrder", named := ["internal/strconv.uint64pow10", "math/bits.deBruijn32tab", "math/bits.deBruijn64tab"], apart := false, laid := [("math/bits.deBruijn32tab", laid_math_bits_deBruijn32tab), ("math/bits.deBruijn64tab", laid_math_bits_deBruijn64tab), ("internal/strconv.uint64pow10", laid_internal_strconv_uint64pow10)], narrowed := true }
def PrefixOrderUptoSaid : Prop := prefixOrderUptoRow.holds Tryd.pinned (OpenSpec.upto prefixOrderSpec)

/-- 'theseuslaw05.AddrAll', WHERE WHAT IT READS IS OF BULK AT MOST 1048576: true; the input reads as it did. -/
def addrAllUptoRow : OpenClaim := { program := "ytfafoiglllfpgaadoor", sum := "c100ccc4d6826aadb438ef3af4b6c8d91d66b0b8cdfc0f851cad66686e84b480", func := "theseus/theseuslaw05.AddrAll", spec := "addrAll", named := ["internal/strconv.uint64pow10", "math/bits.deBruijn32tab", "math/bits.deBruijn64tab"], apart := false, laid := [("math/bits.deBruijn32tab", laid_math_bits_deBruijn32tab), ("math/bits.deBruijn64tab", laid_math_bits_deBruijn64tab), ("internal/strconv.uint64pow10", laid_internal_strconv_uint64pow10)], narrowed := true }
def AddrAllUptoSaid : Prop := addrAllUptoRow.holds Tryd.pinned (OpenSpec.upto addrAllSpec)

/-- 'theseuslaw05.AddrCommon', WHERE WHAT IT READS IS OF BULK AT MOST 1048576: true; the input reads as it did. -/
def addrCommonUptoRow : OpenClaim := { program := "ytfafoiglllfpgaadoor", sum := "c100ccc4d6826aadb438ef3af4b6c8d91d66b0b8cdfc0f851cad66686e84b480", func := "theseus/theseuslaw05.AddrCommon", spec := "addrCommon", named := ["internal/strconv.uint64pow10", "math/bits.deBruijn32tab", "math/bits.deBruijn64tab"], apart := false, laid := [("math/bits.deBruijn32tab", laid_math_bits_deBruijn32tab), ("math/bits.deBruijn64tab", laid_math_bits_deBruijn64tab), ("internal/strconv.uint64pow10", laid_internal_strconv_uint64pow10)], narrowed := true }
def AddrCommonUptoSaid : Prop := addrCommonUptoRow.holds Tryd.pinned (OpenSpec.upto addrCommonSpec)

/-- 'theseuslaw05.AddrTurns', WHERE WHAT IT READS IS OF BULK AT MOST 1048576: true; the input reads as it did. -/
def addrTurnsUptoRow : OpenClaim := { program := "ytfafoiglllfpgaadoor", sum := "c100ccc4d6826aadb438ef3af4b6c8d91d66b0b8cdfc0f851cad66686e84b480", func := "theseus/theseuslaw05.AddrTurns", spec := "addrTurns", named := ["internal/strconv.uint64pow10", "math/bits.deBruijn32tab", "math/bits.deBruijn64tab"], apart := false, laid := [("math/bits.deBruijn32tab", laid_math_bits_deBruijn32tab), ("math/bits.deBruijn64tab", laid_math_bits_deBruijn64tab), ("internal/strconv.uint64pow10", laid_internal_strconv_uint64pow10)], narrowed := true }
def AddrTurnsUptoSaid : Prop := addrTurnsUptoRow.holds Tryd.pinned (OpenSpec.upto addrTurnsSpec)

/-- 'theseuslaw06.PrefixHalves', WHERE WHAT IT READS IS OF BULK AT MOST 1048576: true; the input reads as it did. -/
def prefixHalvesUptoRow : OpenClaim := { program := "ytfafoiglllfpgaadoor", sum := "c100ccc4d6826aadb438ef3af4b6c8d91d66b0b8cdfc0f851cad66686e84b480", func := "theseus/theseuslaw06.PrefixHalves", spec := "prefixHalves", named := ["internal/strconv.uint64pow10", "math/bits.deBruijn32tab", "math/bits.deBruijn64tab"], apart := false, laid := [("math/bits.deBruijn32tab", laid_math_bits_deBruijn32tab), ("math/bits.deBruijn64tab", laid_math_bits_deBruijn64tab), ("internal/strconv.uint64pow10", laid_internal_strconv_uint64pow10)], narrowed := true }
def PrefixHalvesUptoSaid : Prop := prefixHalvesUptoRow.holds Tryd.pinned (OpenSpec.upto prefixHalvesSpec)

/-- 'theseuslaw06.PrefixTexts', WHERE WHAT IT READS IS OF BULK AT MOST 1048576: true; the input reads as it did. -/
def prefixTextsUptoRow : OpenClaim := { program := "ytfafoiglllfpgaadoor", sum := "c100ccc4d6826aadb438ef3af4b6c8d91d66b0b8cdfc0f851cad66686e84b480", func := "theseus/theseuslaw06.PrefixTexts", spec := "prefixTexts", inPlace := ["internal/bytealg.IndexByteString", "internal/bytealg.IndexString"], unfollowed := true, recurses := true, named := ["internal/strconv.uint64pow10", "math/bits.deBruijn32tab", "math/bits.deBruijn64tab", "internal/bytealg.MaxLen"], apart := false, laid := [("math/bits.deBruijn32tab", laid_math_bits_deBruijn32tab), ("math/bits.deBruijn64tab", laid_math_bits_deBruijn64tab), ("internal/strconv.uint64pow10", laid_internal_strconv_uint64pow10)], narrowed := true }
def PrefixTextsUptoSaid : Prop := prefixTextsUptoRow.holds Tryd.pinned (OpenSpec.upto prefixTextsSpec)

/-- 'theseuslaw06.PrefixAll', WHERE WHAT IT READS IS OF BULK AT MOST 1048576: true; the input reads as it did. -/
def prefixAllUptoRow : OpenClaim := { program := "ytfafoiglllfpgaadoor", sum := "c100ccc4d6826aadb438ef3af4b6c8d91d66b0b8cdfc0f851cad66686e84b480", func := "theseus/theseuslaw06.PrefixAll", spec := "prefixAll", inPlace := ["internal/bytealg.IndexByteString", "internal/bytealg.IndexString"], unfollowed := true, recurses := true, named := ["internal/strconv.uint64pow10", "math/bits.deBruijn32tab", "math/bits.deBruijn64tab", "internal/bytealg.MaxLen"], apart := false, laid := [("math/bits.deBruijn32tab", laid_math_bits_deBruijn32tab), ("math/bits.deBruijn64tab", laid_math_bits_deBruijn64tab), ("internal/strconv.uint64pow10", laid_internal_strconv_uint64pow10)], narrowed := true }
def PrefixAllUptoSaid : Prop := prefixAllUptoRow.holds Tryd.pinned (OpenSpec.upto prefixAllSpec)

end Rows
end Go.Proofs.YtfafoiglllfpgaaDoor
