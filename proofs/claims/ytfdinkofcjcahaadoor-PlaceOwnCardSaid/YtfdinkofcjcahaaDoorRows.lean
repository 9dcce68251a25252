/-
  NARROWER THAN 'FOR EVERY INPUT', by the rows' own cells (each row's printed sentence says how): PlaceCovers: laid · PlaceNames: laid · PlaceParses: laid · PlaceCleans: laid · PlaceCounts: laid · PlaceLoose: laid · PlaceJoins: laid · PlaceOwn: laid · PlaceParents: laid · PlaceDigits: laid · PlaceKinds: laid · PlaceBack: laid · PlaceTogether: laid.
  DERIVED. THE GIVEN ROWS OF THIS SEAT. 13 by the template 'for every input the law returns true; each argument reads behind the call as it read before'; 0 by the template 'total and deterministic' (their statements: YtfdinkofcjcahaaDoorTotals.lean).
  GIVEN WITH THE SEED: the statements are not yours to turn. If you find one false, say at which input.
  Laid BY PROGRAM, IN A SANDBOX (cutbox-rows.mjs): the forced cells as the released guide's own fill.sh prints them over the translation 0bfc81660f3cf09a… (all of the seat's roots in one cut). By AI agents, Wed Nov 11 2026. No macro, syntax, notation, axiom, sorry.
-/
import Derived.Test.YtfdinkofcjcahaaDoorChecked
import GoSem.PinnedTables
import GoSem.Claim
import GoSem.ClaimJoined
import GoSem.ClaimMapViews
import Derived.JoinedTies
import Derived.KernelRfl
namespace Go.Proofs.YtfdinkofcjcahaaDoor
/- THE CELL 'sum', in the pinned program and in every row, IS THE sha256 OF THE DUMP (.gsa) THAT YtfdinkofcjcahaaDoorProg.lean LOADS. Nothing in Lean hashes anything: it is a label: what it is worth is what the hold of that sum in a sandbox is worth. -/
noncomputable def Tryd.pinned : Pinned := { name := "ytfdinkofcjcahaadoor", sum := "0bfc81660f3cf09a39c831023b9da0c118b00f463c7aaa7766cbd79abb755dd8", checked := Tryd.checked }
namespace Rows
def none {H : Type} : Left H := { results := [], args := [] }

/- WHAT THE LISTED PACKAGE-LEVEL VARIABLES READ AS WHEN THE CALL BEGINS. Each datum BY PROGRAM (the guide's laid-datum.mjs) off the statement by which the dump's own 'gosem.cut.vars' lays the variable. In a bare row this is a premise. The card (YtfdinkofcjcahaaDoorCards.lean) ties it to the program's text. -/
def laid_unicode_utf8_acceptRanges {H : Type} : DataW H := .agg [.agg [.lit (.int .u8 128), .lit (.int .u8 191)], .agg [.lit (.int .u8 160), .lit (.int .u8 191)], .agg [.lit (.int .u8 128), .lit (.int .u8 159)], .agg [.lit (.int .u8 144), .lit (.int .u8 191)], .agg [.lit (.int .u8 128), .lit (.int .u8 143)], .agg [.lit (.int .u8 0), .lit (.int .u8 0)], .agg [.lit (.int .u8 0), .lit (.int .u8 0)], .agg [.lit (.int .u8 0), .lit (.int .u8 0)], .agg [.lit (.int .u8 0), .lit (.int .u8 0)], .agg [.lit (.int .u8 0), .lit (.int .u8 0)], .agg [.lit (.int .u8 0), .lit (.int .u8 0)], .agg [.lit (.int .u8 0), .lit (.int .u8 0)], .agg [.lit (.int .u8 0), .lit (.int .u8 0)], .agg [.lit (.int .u8 0), .lit (.int .u8 0)], .agg [.lit (.int .u8 0), .lit (.int .u8 0)], .agg [.lit (.int .u8 0), .lit (.int .u8 0)]]
def laid_herald_place_named {H : Type} : DataW H := .agg [.lit (.int .u8 0), .lit (.int .u8 0), .lit (.int .u8 0), .lit (.int .u8 0), .lit (.int .u8 0), .lit (.int .u8 0), .lit (.int .u8 0), .lit (.int .u8 0), .lit (.int .u8 0), .lit (.int .u8 0), .lit (.int .u8 0), .lit (.int .u8 0), .lit (.int .u8 0), .lit (.int .u8 0), .lit (.int .u8 0), .lit (.int .u8 0), .lit (.int .u8 0), .lit (.int .u8 0), .lit (.int .u8 0), .lit (.int .u8 0), .lit (.int .u8 0), .lit (.int .u8 0), .lit (.int .u8 0), .lit (.int .u8 0), .lit (.int .u8 0), .lit (.int .u8 0), .lit (.int .u8 0), .lit (.int .u8 0), .lit (.int .u8 0), .lit (.int .u8 0), .lit (.int .u8 0), .lit (.int .u8 0), .lit (.int .u8 0), .lit (.int .u8 0), .lit (.int .u8 0), .lit (.int .u8 0), .lit (.int .u8 0), .lit (.int .u8 0), .lit (.int .u8 0), .lit (.int .u8 0), .lit (.int .u8 0), .lit (.int .u8 0), .lit (.int .u8 0), .lit (.int .u8 0), .lit (.int .u8 0), .lit (.int .u8 1), .lit (.int .u8 1), .lit (.int .u8 0), .lit (.int .u8 1), .lit (.int .u8 1), .lit (.int .u8 1), .lit (.int .u8 1), .lit (.int .u8 1), .lit (.int .u8 1), .lit (.int .u8 1), .lit (.int .u8 1), .lit (.int .u8 1), .lit (.int .u8 1), .lit (.int .u8 0), .lit (.int .u8 0), .lit (.int .u8 0), .lit (.int .u8 0), .lit (.int .u8 0), .lit (.int .u8 0), .lit (.int .u8 0), .lit (.int .u8 1), .lit (.int .u8 1), .lit (.int .u8 1), .lit (.int .u8 1), .lit (.int .u8 1), .lit (.int .u8 1), .lit (.int .u8 1), .lit (.int .u8 1), .lit (.int .u8 1), .lit (.int .u8 1), .lit (.int .u8 1), .lit (.int .u8 1), .lit (.int .u8 1), .lit (.int .u8 1), .lit (.int .u8 1), .lit (.int .u8 1), .lit (.int .u8 1), .lit (.int .u8 1), .lit (.int .u8 1), .lit (.int .u8 1), .lit (.int .u8 1), .lit (.int .u8 1), .lit (.int .u8 1), .lit (.int .u8 1), .lit (.int .u8 1), .lit (.int .u8 1), .lit (.int .u8 0), .lit (.int .u8 0), .lit (.int .u8 0), .lit (.int .u8 0), .lit (.int .u8 1), .lit (.int .u8 0), .lit (.int .u8 1), .lit (.int .u8 1), .lit (.int .u8 1), .lit (.int .u8 1), .lit (.int .u8 1), .lit (.int .u8 1), .lit (.int .u8 1), .lit (.int .u8 1), .lit (.int .u8 1), .lit (.int .u8 1), .lit (.int .u8 1), .lit (.int .u8 1), .lit (.int .u8 1), .lit (.int .u8 1), .lit (.int .u8 1), .lit (.int .u8 1), .lit (.int .u8 1), .lit (.int .u8 1), .lit (.int .u8 1), .lit (.int .u8 1), .lit (.int .u8 1), .lit (.int .u8 1), .lit (.int .u8 1), .lit (.int .u8 1), .lit (.int .u8 1), .lit (.int .u8 1), .lit (.int .u8 0), .lit (.int .u8 0), .lit (.int .u8 0), .lit (.int .u8 0), .lit (.int .u8 0)]
/-- One of Go's own tables, pinned by name: the form's constant. -/
def laid_unicode_utf8_first : DataW Unit := Go.Pinned.utf8First
def laid_math_bits_deBruijn32tab {H : Type} : DataW H := .agg [.lit (.int .u8 0), .lit (.int .u8 1), .lit (.int .u8 28), .lit (.int .u8 2), .lit (.int .u8 29), .lit (.int .u8 14), .lit (.int .u8 24), .lit (.int .u8 3), .lit (.int .u8 30), .lit (.int .u8 22), .lit (.int .u8 20), .lit (.int .u8 15), .lit (.int .u8 25), .lit (.int .u8 17), .lit (.int .u8 4), .lit (.int .u8 8), .lit (.int .u8 31), .lit (.int .u8 27), .lit (.int .u8 13), .lit (.int .u8 23), .lit (.int .u8 21), .lit (.int .u8 19), .lit (.int .u8 16), .lit (.int .u8 7), .lit (.int .u8 26), .lit (.int .u8 12), .lit (.int .u8 18), .lit (.int .u8 6), .lit (.int .u8 11), .lit (.int .u8 5), .lit (.int .u8 10), .lit (.int .u8 9)]
def laid_math_bits_deBruijn64tab {H : Type} : DataW H := .agg [.lit (.int .u8 0), .lit (.int .u8 1), .lit (.int .u8 56), .lit (.int .u8 2), .lit (.int .u8 57), .lit (.int .u8 49), .lit (.int .u8 28), .lit (.int .u8 3), .lit (.int .u8 61), .lit (.int .u8 58), .lit (.int .u8 42), .lit (.int .u8 50), .lit (.int .u8 38), .lit (.int .u8 29), .lit (.int .u8 17), .lit (.int .u8 4), .lit (.int .u8 62), .lit (.int .u8 47), .lit (.int .u8 59), .lit (.int .u8 36), .lit (.int .u8 45), .lit (.int .u8 43), .lit (.int .u8 51), .lit (.int .u8 22), .lit (.int .u8 53), .lit (.int .u8 39), .lit (.int .u8 33), .lit (.int .u8 30), .lit (.int .u8 24), .lit (.int .u8 18), .lit (.int .u8 12), .lit (.int .u8 5), .lit (.int .u8 63), .lit (.int .u8 55), .lit (.int .u8 48), .lit (.int .u8 27), .lit (.int .u8 60), .lit (.int .u8 41), .lit (.int .u8 37), .lit (.int .u8 16), .lit (.int .u8 46), .lit (.int .u8 35), .lit (.int .u8 44), .lit (.int .u8 21), .lit (.int .u8 52), .lit (.int .u8 32), .lit (.int .u8 23), .lit (.int .u8 11), .lit (.int .u8 54), .lit (.int .u8 26), .lit (.int .u8 40), .lit (.int .u8 15), .lit (.int .u8 34), .lit (.int .u8 20), .lit (.int .u8 31), .lit (.int .u8 10), .lit (.int .u8 25), .lit (.int .u8 14), .lit (.int .u8 19), .lit (.int .u8 9), .lit (.int .u8 13), .lit (.int .u8 8), .lit (.int .u8 7), .lit (.int .u8 6)]
def laid_internal_strconv_uint64pow10 {H : Type} : DataW H := .agg [.lit (.int .u64 1), .lit (.int .u64 10), .lit (.int .u64 100), .lit (.int .u64 1000), .lit (.int .u64 10000), .lit (.int .u64 100000), .lit (.int .u64 1000000), .lit (.int .u64 10000000), .lit (.int .u64 100000000), .lit (.int .u64 1000000000), .lit (.int .u64 10000000000), .lit (.int .u64 100000000000), .lit (.int .u64 1000000000000), .lit (.int .u64 10000000000000), .lit (.int .u64 100000000000000), .lit (.int .u64 1000000000000000), .lit (.int .u64 10000000000000000), .lit (.int .u64 100000000000000000), .lit (.int .u64 1000000000000000000), .lit (.int .u64 10000000000000000000)]

/-- 'heraldlaw1.PlaceCovers': WHATEVER THE INPUT: true; the input reads as it did. -/
def placeCoversSpec : ChangeSpec := { name := "placeCovers", fn := fun _ => fun
  | [d1, d2, d3, d4] => { results := [.lit (.bool true)], args := [d1, d2, d3, d4] }
  | _ => none }
def placeCoversRow : OpenClaim := { program := "ytfdinkofcjcahaadoor", sum := "0bfc81660f3cf09a39c831023b9da0c118b00f463c7aaa7766cbd79abb755dd8", func := "herald/heraldlaw1.PlaceCovers", spec := "placeCovers", inPlace := ["internal/bytealg.CountString", "internal/bytealg.IndexByteString", "internal/bytealg.IndexString"], named := ["unicode/utf8.first", "unicode/utf8.acceptRanges", "internal/bytealg.MaxLen", "herald/place.named"], apart := false, laid := [("unicode/utf8.acceptRanges", laid_unicode_utf8_acceptRanges), ("herald/place.named", laid_herald_place_named), ("unicode/utf8.first", laid_unicode_utf8_first)] }
def PlaceCoversSaid : Prop := placeCoversRow.holds Tryd.pinned (OpenSpec.ofChange placeCoversSpec)

/-- ITS FALSE NEIGHBOUR: 'it returns false'. Refute it at one input. -/
def placeCoversWrong : ChangeSpec := { name := "placeCovers", fn := fun _ => fun
  | [d1, d2, d3, d4] => { results := [.lit (.bool false)], args := [d1, d2, d3, d4] }
  | _ => none }
def PlaceCoversWrongFalsely : Prop := placeCoversRow.holds Tryd.pinned (OpenSpec.ofChange placeCoversWrong)

/-- 'heraldlaw1.PlaceNames': WHATEVER THE INPUT: true; the input reads as it did. -/
def placeNamesSpec : ChangeSpec := { name := "placeNames", fn := fun _ => fun
  | [] => { results := [.lit (.bool true)], args := [] }
  | _ => none }
def placeNamesRow : OpenClaim := { program := "ytfdinkofcjcahaadoor", sum := "0bfc81660f3cf09a39c831023b9da0c118b00f463c7aaa7766cbd79abb755dd8", func := "herald/heraldlaw1.PlaceNames", spec := "placeNames", inPlace := ["internal/bytealg.CountString", "internal/bytealg.IndexByteString", "internal/bytealg.IndexString", "internal/abi.NoEscape", "internal/bytealg.MakeNoZero"], named := ["unicode/utf8.first", "unicode/utf8.acceptRanges", "internal/bytealg.MaxLen", "herald/place.named"], apart := false, laid := [("unicode/utf8.acceptRanges", laid_unicode_utf8_acceptRanges), ("herald/place.named", laid_herald_place_named), ("unicode/utf8.first", laid_unicode_utf8_first)] }
def PlaceNamesSaid : Prop := placeNamesRow.holds Tryd.pinned (OpenSpec.ofChange placeNamesSpec)

/-- ITS FALSE NEIGHBOUR: 'it returns false'. Refute it at one input. -/
def placeNamesWrong : ChangeSpec := { name := "placeNames", fn := fun _ => fun
  | [] => { results := [.lit (.bool false)], args := [] }
  | _ => none }
def PlaceNamesWrongFalsely : Prop := placeNamesRow.holds Tryd.pinned (OpenSpec.ofChange placeNamesWrong)

/-- 'heraldlaw1.PlaceParses': WHATEVER THE INPUT: true; the input reads as it did. -/
def placeParsesSpec : ChangeSpec := { name := "placeParses", fn := fun _ => fun
  | [d] => { results := [.lit (.bool true)], args := [d] }
  | _ => none }
def placeParsesRow : OpenClaim := { program := "ytfdinkofcjcahaadoor", sum := "0bfc81660f3cf09a39c831023b9da0c118b00f463c7aaa7766cbd79abb755dd8", func := "herald/heraldlaw1.PlaceParses", spec := "placeParses", inPlace := ["internal/bytealg.CountString", "internal/bytealg.IndexByteString", "internal/bytealg.IndexString", "internal/abi.NoEscape", "internal/bytealg.MakeNoZero"], unfollowed := true, recurses := true, named := ["unicode/utf8.first", "unicode/utf8.acceptRanges", "internal/bytealg.MaxLen", "herald/place.named", "internal/strconv.uint64pow10", "math/bits.deBruijn32tab", "math/bits.deBruijn64tab"], apart := false, laid := [("math/bits.deBruijn32tab", laid_math_bits_deBruijn32tab), ("math/bits.deBruijn64tab", laid_math_bits_deBruijn64tab), ("internal/strconv.uint64pow10", laid_internal_strconv_uint64pow10), ("unicode/utf8.acceptRanges", laid_unicode_utf8_acceptRanges), ("herald/place.named", laid_herald_place_named), ("unicode/utf8.first", laid_unicode_utf8_first)] }
def PlaceParsesSaid : Prop := placeParsesRow.holds Tryd.pinned (OpenSpec.ofChange placeParsesSpec)

/-- ITS FALSE NEIGHBOUR: 'it returns false'. Refute it at one input. -/
def placeParsesWrong : ChangeSpec := { name := "placeParses", fn := fun _ => fun
  | [d] => { results := [.lit (.bool false)], args := [d] }
  | _ => none }
def PlaceParsesWrongFalsely : Prop := placeParsesRow.holds Tryd.pinned (OpenSpec.ofChange placeParsesWrong)

/-- 'heraldlaw1.PlaceCleans': WHATEVER THE INPUT: true; the input reads as it did. -/
def placeCleansSpec : ChangeSpec := { name := "placeCleans", fn := fun _ => fun
  | [d] => { results := [.lit (.bool true)], args := [d] }
  | _ => none }
def placeCleansRow : OpenClaim := { program := "ytfdinkofcjcahaadoor", sum := "0bfc81660f3cf09a39c831023b9da0c118b00f463c7aaa7766cbd79abb755dd8", func := "herald/heraldlaw1.PlaceCleans", spec := "placeCleans", inPlace := ["internal/bytealg.IndexByteString", "internal/bytealg.IndexString", "internal/abi.NoEscape", "internal/bytealg.MakeNoZero", "internal/bytealg.CountString"], unfollowed := true, recurses := true, named := ["unicode/utf8.first", "unicode/utf8.acceptRanges", "internal/bytealg.MaxLen", "herald/place.named", "internal/strconv.uint64pow10", "math/bits.deBruijn32tab", "math/bits.deBruijn64tab"], apart := false, laid := [("math/bits.deBruijn32tab", laid_math_bits_deBruijn32tab), ("math/bits.deBruijn64tab", laid_math_bits_deBruijn64tab), ("internal/strconv.uint64pow10", laid_internal_strconv_uint64pow10), ("unicode/utf8.acceptRanges", laid_unicode_utf8_acceptRanges), ("herald/place.named", laid_herald_place_named), ("unicode/utf8.first", laid_unicode_utf8_first)] }
def PlaceCleansSaid : Prop := placeCleansRow.holds Tryd.pinned (OpenSpec.ofChange placeCleansSpec)

/-- ITS FALSE NEIGHBOUR: 'it returns false'. Refute it at one input. -/
def placeCleansWrong : ChangeSpec := { name := "placeCleans", fn := fun _ => fun
  | [d] => { results := [.lit (.bool false)], args := [d] }
  | _ => none }
def PlaceCleansWrongFalsely : Prop := placeCleansRow.holds Tryd.pinned (OpenSpec.ofChange placeCleansWrong)

/-- 'heraldlaw1.PlaceCounts': WHATEVER THE INPUT: true; the input reads as it did. -/
def placeCountsSpec : ChangeSpec := { name := "placeCounts", fn := fun _ => fun
  | [d1, d2] => { results := [.lit (.bool true)], args := [d1, d2] }
  | _ => none }
def placeCountsRow : OpenClaim := { program := "ytfdinkofcjcahaadoor", sum := "0bfc81660f3cf09a39c831023b9da0c118b00f463c7aaa7766cbd79abb755dd8", func := "herald/heraldlaw1.PlaceCounts", spec := "placeCounts", inPlace := ["internal/bytealg.CountString", "internal/bytealg.IndexByteString", "internal/bytealg.IndexString", "internal/abi.NoEscape", "internal/bytealg.MakeNoZero"], unfollowed := true, recurses := true, named := ["unicode/utf8.first", "unicode/utf8.acceptRanges", "internal/bytealg.MaxLen", "herald/place.named", "internal/strconv.uint64pow10", "math/bits.deBruijn32tab", "math/bits.deBruijn64tab"], apart := false, laid := [("math/bits.deBruijn32tab", laid_math_bits_deBruijn32tab), ("math/bits.deBruijn64tab", laid_math_bits_deBruijn64tab), ("internal/strconv.uint64pow10", laid_internal_strconv_uint64pow10), ("unicode/utf8.acceptRanges", laid_unicode_utf8_acceptRanges), ("herald/place.named", laid_herald_place_named), ("unicode/utf8.first", laid_unicode_utf8_first)] }
def PlaceCountsSaid : Prop := placeCountsRow.holds Tryd.pinned (OpenSpec.ofChange placeCountsSpec)

/-- ITS FALSE NEIGHBOUR: 'it returns false'. Refute it at one input. -/
def placeCountsWrong : ChangeSpec := { name := "placeCounts", fn := fun _ => fun
  | [d1, d2] => { results := [.lit (.bool false)], args := [d1, d2] }
  | _ => none }
def PlaceCountsWrongFalsely : Prop := placeCountsRow.holds Tryd.pinned (OpenSpec.ofChange placeCountsWrong)

/-- 'heraldlaw1.PlaceLoose': WHATEVER THE INPUT: true; the input reads as it did. -/
def placeLooseSpec : ChangeSpec := { name := "placeLoose", fn := fun _ => fun
  | [d1, d2, d3] => { results := [.lit (.bool true)], args := [d1, d2, d3] }
  | _ => none }
def placeLooseRow : OpenClaim := { program := "ytfdinkofcjcahaadoor", sum := "0bfc81660f3cf09a39c831023b9da0c118b00f463c7aaa7766cbd79abb755dd8", func := "herald/heraldlaw1.PlaceLoose", spec := "placeLoose", inPlace := ["internal/bytealg.CountString", "internal/bytealg.IndexByteString", "internal/bytealg.IndexString", "internal/abi.NoEscape", "internal/bytealg.MakeNoZero"], unfollowed := true, recurses := true, named := ["unicode/utf8.first", "unicode/utf8.acceptRanges", "internal/bytealg.MaxLen", "herald/place.named", "internal/strconv.uint64pow10", "math/bits.deBruijn32tab", "math/bits.deBruijn64tab"], apart := false, laid := [("math/bits.deBruijn32tab", laid_math_bits_deBruijn32tab), ("math/bits.deBruijn64tab", laid_math_bits_deBruijn64tab), ("internal/strconv.uint64pow10", laid_internal_strconv_uint64pow10), ("unicode/utf8.acceptRanges", laid_unicode_utf8_acceptRanges), ("herald/place.named", laid_herald_place_named), ("unicode/utf8.first", laid_unicode_utf8_first)] }
def PlaceLooseSaid : Prop := placeLooseRow.holds Tryd.pinned (OpenSpec.ofChange placeLooseSpec)

/-- ITS FALSE NEIGHBOUR: 'it returns false'. Refute it at one input. -/
def placeLooseWrong : ChangeSpec := { name := "placeLoose", fn := fun _ => fun
  | [d1, d2, d3] => { results := [.lit (.bool false)], args := [d1, d2, d3] }
  | _ => none }
def PlaceLooseWrongFalsely : Prop := placeLooseRow.holds Tryd.pinned (OpenSpec.ofChange placeLooseWrong)

/-- 'heraldlaw1.PlaceJoins': WHATEVER THE INPUT: true; the input reads as it did. -/
def placeJoinsSpec : ChangeSpec := { name := "placeJoins", fn := fun _ => fun
  | [d1, d2] => { results := [.lit (.bool true)], args := [d1, d2] }
  | _ => none }
def placeJoinsRow : OpenClaim := { program := "ytfdinkofcjcahaadoor", sum := "0bfc81660f3cf09a39c831023b9da0c118b00f463c7aaa7766cbd79abb755dd8", func := "herald/heraldlaw1.PlaceJoins", spec := "placeJoins", inPlace := ["internal/bytealg.CountString", "internal/bytealg.IndexByteString", "internal/bytealg.IndexString", "internal/abi.NoEscape", "internal/bytealg.MakeNoZero"], unfollowed := true, recurses := true, named := ["unicode/utf8.first", "unicode/utf8.acceptRanges", "internal/bytealg.MaxLen", "herald/place.named", "internal/strconv.uint64pow10", "math/bits.deBruijn32tab", "math/bits.deBruijn64tab"], apart := false, laid := [("math/bits.deBruijn32tab", laid_math_bits_deBruijn32tab), ("math/bits.deBruijn64tab", laid_math_bits_deBruijn64tab), ("internal/strconv.uint64pow10", laid_internal_strconv_uint64pow10), ("unicode/utf8.acceptRanges", laid_unicode_utf8_acceptRanges), ("herald/place.named", laid_herald_place_named), ("unicode/utf8.first", laid_unicode_utf8_first)] }
def PlaceJoinsSaid : Prop := placeJoinsRow.holds Tryd.pinned (OpenSpec.ofChange placeJoinsSpec)

/-- ITS FALSE NEIGHBOUR: 'it returns false'. Refute it at one input. -/
def placeJoinsWrong : ChangeSpec := { name := "placeJoins", fn := fun _ => fun
  | [d1, d2] => { results := [.lit (.bool false)], args := [d1, d2] }
  | _ => none }
def PlaceJoinsWrongFalsely : Prop := placeJoinsRow.holds Tryd.pinned (OpenSpec.ofChange placeJoinsWrong)

/-- 'heraldlaw1.PlaceOwn': WHATEVER THE INPUT: true; the input reads as it did. -/
def placeOwnSpec : ChangeSpec := { name := "placeOwn", fn := fun _ => fun
  | [d] => { results := [.lit (.bool true)], args := [d] }
  | _ => none }
def placeOwnRow : OpenClaim := { program := "ytfdinkofcjcahaadoor", sum := "0bfc81660f3cf09a39c831023b9da0c118b00f463c7aaa7766cbd79abb755dd8", func := "herald/heraldlaw1.PlaceOwn", spec := "placeOwn", inPlace := ["internal/bytealg.CountString", "internal/bytealg.IndexByteString", "internal/bytealg.IndexString", "internal/abi.NoEscape", "internal/bytealg.MakeNoZero"], unfollowed := true, recurses := true, named := ["unicode/utf8.first", "unicode/utf8.acceptRanges", "internal/bytealg.MaxLen", "herald/place.named", "internal/strconv.uint64pow10", "math/bits.deBruijn32tab", "math/bits.deBruijn64tab"], apart := false, laid := [("math/bits.deBruijn32tab", laid_math_bits_deBruijn32tab), ("math/bits.deBruijn64tab", laid_math_bits_deBruijn64tab), ("internal/strconv.uint64pow10", laid_internal_strconv_uint64pow10), ("unicode/utf8.acceptRanges", laid_unicode_utf8_acceptRanges), ("herald/place.named", laid_herald_place_named), ("unicode/utf8.first", laid_unicode_utf8_first)] }
def PlaceOwnSaid : Prop := placeOwnRow.holds Tryd.pinned (OpenSpec.ofChange placeOwnSpec)

/-- ITS FALSE NEIGHBOUR: 'it returns false'. Refute it at one input. -/
def placeOwnWrong : ChangeSpec := { name := "placeOwn", fn := fun _ => fun
  | [d] => { results := [.lit (.bool false)], args := [d] }
  | _ => none }
def PlaceOwnWrongFalsely : Prop := placeOwnRow.holds Tryd.pinned (OpenSpec.ofChange placeOwnWrong)

/-- 'heraldlaw1.PlaceParents': WHATEVER THE INPUT: true; the input reads as it did. -/
def placeParentsSpec : ChangeSpec := { name := "placeParents", fn := fun _ => fun
  | [d] => { results := [.lit (.bool true)], args := [d] }
  | _ => none }
def placeParentsRow : OpenClaim := { program := "ytfdinkofcjcahaadoor", sum := "0bfc81660f3cf09a39c831023b9da0c118b00f463c7aaa7766cbd79abb755dd8", func := "herald/heraldlaw1.PlaceParents", spec := "placeParents", inPlace := ["internal/bytealg.CountString", "internal/bytealg.IndexByteString", "internal/bytealg.IndexString", "internal/abi.NoEscape", "internal/bytealg.MakeNoZero"], unfollowed := true, recurses := true, named := ["unicode/utf8.first", "unicode/utf8.acceptRanges", "internal/bytealg.MaxLen", "herald/place.named", "internal/strconv.uint64pow10", "math/bits.deBruijn32tab", "math/bits.deBruijn64tab"], apart := false, laid := [("math/bits.deBruijn32tab", laid_math_bits_deBruijn32tab), ("math/bits.deBruijn64tab", laid_math_bits_deBruijn64tab), ("internal/strconv.uint64pow10", laid_internal_strconv_uint64pow10), ("unicode/utf8.acceptRanges", laid_unicode_utf8_acceptRanges), ("herald/place.named", laid_herald_place_named), ("unicode/utf8.first", laid_unicode_utf8_first)] }
def PlaceParentsSaid : Prop := placeParentsRow.holds Tryd.pinned (OpenSpec.ofChange placeParentsSpec)

/-- ITS FALSE NEIGHBOUR: 'it returns false'. Refute it at one input. -/
def placeParentsWrong : ChangeSpec := { name := "placeParents", fn := fun _ => fun
  | [d] => { results := [.lit (.bool false)], args := [d] }
  | _ => none }
def PlaceParentsWrongFalsely : Prop := placeParentsRow.holds Tryd.pinned (OpenSpec.ofChange placeParentsWrong)

/-- 'heraldlaw1.PlaceDigits': WHATEVER THE INPUT: true; the input reads as it did. -/
def placeDigitsSpec : ChangeSpec := { name := "placeDigits", fn := fun _ => fun
  | [d1, d2, d3] => { results := [.lit (.bool true)], args := [d1, d2, d3] }
  | _ => none }
def placeDigitsRow : OpenClaim := { program := "ytfdinkofcjcahaadoor", sum := "0bfc81660f3cf09a39c831023b9da0c118b00f463c7aaa7766cbd79abb755dd8", func := "herald/heraldlaw1.PlaceDigits", spec := "placeDigits", inPlace := ["internal/bytealg.CountString", "internal/bytealg.IndexByteString", "internal/bytealg.IndexString", "internal/abi.NoEscape", "internal/bytealg.MakeNoZero"], unfollowed := true, recurses := true, named := ["unicode/utf8.first", "unicode/utf8.acceptRanges", "internal/bytealg.MaxLen", "herald/place.named", "internal/strconv.uint64pow10", "math/bits.deBruijn32tab", "math/bits.deBruijn64tab"], apart := false, laid := [("math/bits.deBruijn32tab", laid_math_bits_deBruijn32tab), ("math/bits.deBruijn64tab", laid_math_bits_deBruijn64tab), ("internal/strconv.uint64pow10", laid_internal_strconv_uint64pow10), ("unicode/utf8.acceptRanges", laid_unicode_utf8_acceptRanges), ("herald/place.named", laid_herald_place_named), ("unicode/utf8.first", laid_unicode_utf8_first)] }
def PlaceDigitsSaid : Prop := placeDigitsRow.holds Tryd.pinned (OpenSpec.ofChange placeDigitsSpec)

/-- ITS FALSE NEIGHBOUR: 'it returns false'. Refute it at one input. -/
def placeDigitsWrong : ChangeSpec := { name := "placeDigits", fn := fun _ => fun
  | [d1, d2, d3] => { results := [.lit (.bool false)], args := [d1, d2, d3] }
  | _ => none }
def PlaceDigitsWrongFalsely : Prop := placeDigitsRow.holds Tryd.pinned (OpenSpec.ofChange placeDigitsWrong)

/-- 'heraldlaw1.PlaceKinds': WHATEVER THE INPUT: true; the input reads as it did. -/
def placeKindsSpec : ChangeSpec := { name := "placeKinds", fn := fun _ => fun
  | [d1, d2, d3] => { results := [.lit (.bool true)], args := [d1, d2, d3] }
  | _ => none }
def placeKindsRow : OpenClaim := { program := "ytfdinkofcjcahaadoor", sum := "0bfc81660f3cf09a39c831023b9da0c118b00f463c7aaa7766cbd79abb755dd8", func := "herald/heraldlaw1.PlaceKinds", spec := "placeKinds", inPlace := ["internal/bytealg.CountString", "internal/bytealg.IndexByteString", "internal/bytealg.IndexString", "internal/abi.NoEscape", "internal/bytealg.MakeNoZero"], unfollowed := true, recurses := true, named := ["unicode/utf8.first", "unicode/utf8.acceptRanges", "internal/bytealg.MaxLen", "herald/place.named", "internal/strconv.uint64pow10", "math/bits.deBruijn32tab", "math/bits.deBruijn64tab"], apart := false, laid := [("math/bits.deBruijn32tab", laid_math_bits_deBruijn32tab), ("math/bits.deBruijn64tab", laid_math_bits_deBruijn64tab), ("internal/strconv.uint64pow10", laid_internal_strconv_uint64pow10), ("unicode/utf8.acceptRanges", laid_unicode_utf8_acceptRanges), ("herald/place.named", laid_herald_place_named), ("unicode/utf8.first", laid_unicode_utf8_first)] }
def PlaceKindsSaid : Prop := placeKindsRow.holds Tryd.pinned (OpenSpec.ofChange placeKindsSpec)

/-- ITS FALSE NEIGHBOUR: 'it returns false'. Refute it at one input. -/
def placeKindsWrong : ChangeSpec := { name := "placeKinds", fn := fun _ => fun
  | [d1, d2, d3] => { results := [.lit (.bool false)], args := [d1, d2, d3] }
  | _ => none }
def PlaceKindsWrongFalsely : Prop := placeKindsRow.holds Tryd.pinned (OpenSpec.ofChange placeKindsWrong)

/-- 'heraldlaw1.PlaceBack': WHATEVER THE INPUT: true; the input reads as it did. -/
def placeBackSpec : ChangeSpec := { name := "placeBack", fn := fun _ => fun
  | [d1, d2] => { results := [.lit (.bool true)], args := [d1, d2] }
  | _ => none }
def placeBackRow : OpenClaim := { program := "ytfdinkofcjcahaadoor", sum := "0bfc81660f3cf09a39c831023b9da0c118b00f463c7aaa7766cbd79abb755dd8", func := "herald/heraldlaw1.PlaceBack", spec := "placeBack", inPlace := ["internal/bytealg.CountString", "internal/bytealg.IndexByteString", "internal/bytealg.IndexString", "internal/abi.NoEscape", "internal/bytealg.MakeNoZero"], unfollowed := true, recurses := true, named := ["unicode/utf8.first", "unicode/utf8.acceptRanges", "internal/bytealg.MaxLen", "herald/place.named", "internal/strconv.uint64pow10", "math/bits.deBruijn32tab", "math/bits.deBruijn64tab"], apart := false, laid := [("math/bits.deBruijn32tab", laid_math_bits_deBruijn32tab), ("math/bits.deBruijn64tab", laid_math_bits_deBruijn64tab), ("internal/strconv.uint64pow10", laid_internal_strconv_uint64pow10), ("unicode/utf8.acceptRanges", laid_unicode_utf8_acceptRanges), ("herald/place.named", laid_herald_place_named), ("unicode/utf8.first", laid_unicode_utf8_first)] }
def PlaceBackSaid : Prop := placeBackRow.holds Tryd.pinned (OpenSpec.ofChange placeBackSpec)

/-- ITS FALSE NEIGHBOUR: 'it returns false'. Refute it at one input. -/
def placeBackWrong : ChangeSpec := { name := "placeBack", fn := fun _ => fun
  | [d1, d2] => { results := [.lit (.bool false)], args := [d1, d2] }
  | _ => none }
def PlaceBackWrongFalsely : Prop := placeBackRow.holds Tryd.pinned (OpenSpec.ofChange placeBackWrong)

/-- 'heraldlaw1.PlaceTogether': WHATEVER THE INPUT: true; the input reads as it did. -/
def placeTogetherSpec : ChangeSpec := { name := "placeTogether", fn := fun _ => fun
  | [d1, d2, d3] => { results := [.lit (.bool true)], args := [d1, d2, d3] }
  | _ => none }
def placeTogetherRow : OpenClaim := { program := "ytfdinkofcjcahaadoor", sum := "0bfc81660f3cf09a39c831023b9da0c118b00f463c7aaa7766cbd79abb755dd8", func := "herald/heraldlaw1.PlaceTogether", spec := "placeTogether", inPlace := ["internal/bytealg.CountString", "internal/bytealg.IndexByteString", "internal/bytealg.IndexString", "internal/abi.NoEscape", "internal/bytealg.MakeNoZero"], unfollowed := true, recurses := true, named := ["unicode/utf8.first", "unicode/utf8.acceptRanges", "internal/bytealg.MaxLen", "herald/place.named", "internal/strconv.uint64pow10", "math/bits.deBruijn32tab", "math/bits.deBruijn64tab"], apart := false, laid := [("math/bits.deBruijn32tab", laid_math_bits_deBruijn32tab), ("math/bits.deBruijn64tab", laid_math_bits_deBruijn64tab), ("internal/strconv.uint64pow10", laid_internal_strconv_uint64pow10), ("unicode/utf8.acceptRanges", laid_unicode_utf8_acceptRanges), ("herald/place.named", laid_herald_place_named), ("unicode/utf8.first", laid_unicode_utf8_first)] }
def PlaceTogetherSaid : Prop := placeTogetherRow.holds Tryd.pinned (OpenSpec.ofChange placeTogetherSpec)

/-- ITS FALSE NEIGHBOUR: 'it returns false'. Refute it at one input. -/
def placeTogetherWrong : ChangeSpec := { name := "placeTogether", fn := fun _ => fun
  | [d1, d2, d3] => { results := [.lit (.bool false)], args := [d1, d2, d3] }
  | _ => none }
def PlaceTogetherWrongFalsely : Prop := placeTogetherRow.holds Tryd.pinned (OpenSpec.ofChange placeTogetherWrong)

/- THE SECOND FORM. 'bulk': how many values and letters a reading holds, each counted each time it is reached (what is shared counts as often as it is met; a slice's spare places count too). A statement '..UptoSaid' is the law's where the arguments, and the package variables that the reading takes, are together of bulk at most 1048576: NARROWER than '..Said'. Prove '..Said' where nothing that the law and all that it calls make is longer than what came in: it says more and counts as full. Else prove '..UptoSaid'. A law counts once. -/
mutual
def uptoBulk {H : Type} : DataW H → Nat
  | .lit (.string bytes) => bytes.length + 1
  | .lit _ => 1
  | .nil => 1
  | .ptr d => uptoBulk d + 1
  | .slice elems spare => uptoBulkAll elems + uptoBulkAll spare + 1
  | .agg parts => uptoBulkAll parts + 1
  | .iface _ d => uptoBulk d + 1
  | .map entries => uptoBulkEntries entries + 1
  | .held _ => 1
def uptoBulkAll {H : Type} : List (DataW H) → Nat
  | [] => 0
  | d :: r => uptoBulk d + uptoBulkAll r
def uptoBulkEntries {H : Type} : List (Lit × DataW H) → Nat
  | [] => 0
  | x :: r => uptoBulkEntry x + uptoBulkEntries r
def uptoBulkEntry {H : Type} : Lit × DataW H → Nat
  | (.string bytes, d) => bytes.length + uptoBulk d + 1
  | (_, d) => uptoBulk d + 1
 end
def uptoSmall : (H : Type) → List (DataW H) → Bool := fun _ ds => decide (uptoBulkAll ds ≤ 1048576)
def OpenSpec.upto (s : _root_.Go.ChangeSpec) : _root_.Go.OpenSpec := { _root_.Go.OpenSpec.ofChange s with cond := some uptoSmall }

/-- 'heraldlaw1.PlaceCovers', WHERE WHAT IT READS IS OF BULK AT MOST 1048576: true; the input reads as it did. -/
def placeCoversUptoRow : OpenClaim := { program := "ytfdinkofcjcahaadoor", sum := "0bfc81660f3cf09a39c831023b9da0c118b00f463c7aaa7766cbd79abb755dd8", func := "herald/heraldlaw1.PlaceCovers", spec := "placeCovers", inPlace := ["internal/bytealg.CountString", "internal/bytealg.IndexByteString", "internal/bytealg.IndexString"], named := ["unicode/utf8.first", "unicode/utf8.acceptRanges", "internal/bytealg.MaxLen", "herald/place.named"], apart := false, laid := [("unicode/utf8.acceptRanges", laid_unicode_utf8_acceptRanges), ("herald/place.named", laid_herald_place_named), ("unicode/utf8.first", laid_unicode_utf8_first)], narrowed := true }
def PlaceCoversUptoSaid : Prop := placeCoversUptoRow.holds Tryd.pinned (OpenSpec.upto placeCoversSpec)

/-- 'heraldlaw1.PlaceNames', WHERE WHAT IT READS IS OF BULK AT MOST 1048576: true; the input reads as it did. -/
def placeNamesUptoRow : OpenClaim := { program := "ytfdinkofcjcahaadoor", sum := "0bfc81660f3cf09a39c831023b9da0c118b00f463c7aaa7766cbd79abb755dd8", func := "herald/heraldlaw1.PlaceNames", spec := "placeNames", inPlace := ["internal/bytealg.CountString", "internal/bytealg.IndexByteString", "internal/bytealg.IndexString", "internal/abi.NoEscape", "internal/bytealg.MakeNoZero"], named := ["unicode/utf8.first", "unicode/utf8.acceptRanges", "internal/bytealg.MaxLen", "herald/place.named"], apart := false, laid := [("unicode/utf8.acceptRanges", laid_unicode_utf8_acceptRanges), ("herald/place.named", laid_herald_place_named), ("unicode/utf8.first", laid_unicode_utf8_first)], narrowed := true }
def PlaceNamesUptoSaid : Prop := placeNamesUptoRow.holds Tryd.pinned (OpenSpec.upto placeNamesSpec)

/-- 'heraldlaw1.PlaceParses', WHERE WHAT IT READS IS OF BULK AT MOST 1048576: true; the input reads as it did. -/
def placeParsesUptoRow : OpenClaim := { program := "ytfdinkofcjcahaadoor", sum := "0bfc81660f3cf09a39c831023b9da0c118b00f463c7aaa7766cbd79abb755dd8", func := "herald/heraldlaw1.PlaceParses", spec := "placeParses", inPlace := ["internal/bytealg.CountString", "internal/bytealg.IndexByteString", "internal/bytealg.IndexString", "internal/abi.NoEscape", "internal/bytealg.MakeNoZero"], unfollowed := true, recurses := true, named := ["unicode/utf8.first", "unicode/utf8.acceptRanges", "internal/bytealg.MaxLen", "herald/place.named", "internal/strconv.uint64pow10", "math/bits.deBruijn32tab", "math/bits.deBruijn64tab"], apart := false, laid := [("math/bits.deBruijn32tab", laid_math_bits_deBruijn32tab), ("math/bits.deBruijn64tab", laid_math_bits_deBruijn64tab), ("internal/strconv.uint64pow10", laid_internal_strconv_uint64pow10), ("unicode/utf8.acceptRanges", laid_unicode_utf8_acceptRanges), ("herald/place.named", laid_herald_place_named), ("unicode/utf8.first", laid_unicode_utf8_first)], narrowed := true }
def PlaceParsesUptoSaid : Prop := placeParsesUptoRow.holds Tryd.pinned (OpenSpec.upto placeParsesSpec)

/-- 'heraldlaw1.PlaceCleans', WHERE WHAT IT READS IS OF BULK AT MOST 1048576: true; the input reads as it did. -/
def placeCleansUptoRow : OpenClaim := { program := "ytfdinkofcjcahaadoor", sum := "0bfc81660f3cf09a39c831023b9da0c118b00f463c7aaa7766cbd79abb755dd8", func := "herald/heraldlaw1.PlaceCleans", spec := "placeCleans", inPlace := ["internal/bytealg.IndexByteString", "internal/bytealg.IndexString", "internal/abi.NoEscape", "internal/bytealg.MakeNoZero", "internal/bytealg.CountString"], unfollowed := true, recurses := true, named := ["unicode/utf8.first", "unicode/utf8.acceptRanges", "internal/bytealg.MaxLen", "herald/place.named", "internal/strconv.uint64pow10", "math/bits.deBruijn32tab", "math/bits.deBruijn64tab"], apart := false, laid := [("math/bits.deBruijn32tab", laid_math_bits_deBruijn32tab), ("math/bits.deBruijn64tab", laid_math_bits_deBruijn64tab), ("internal/strconv.uint64pow10", laid_internal_strconv_uint64pow10), ("unicode/utf8.acceptRanges", laid_unicode_utf8_acceptRanges), ("herald/place.named", laid_herald_place_named), ("unicode/utf8.first", laid_unicode_utf8_first)], narrowed := true }
def PlaceCleansUptoSaid : Prop := placeCleansUptoRow.holds Tryd.pinned (OpenSpec.upto placeCleansSpec)

/-- 'heraldlaw1.PlaceCounts', WHERE WHAT IT READS IS OF BULK AT MOST 1048576: true; the input reads as it did. -/
def placeCountsUptoRow : OpenClaim := { program := "ytfdinkofcjcahaadoor", sum := "0bfc81660f3cf09a39c831023b9da0c118b00f463c7aaa7766cbd79abb755dd8", func := "herald/heraldlaw1.PlaceCounts", spec := "placeCounts", inPlace := ["internal/bytealg.CountString", "internal/bytealg.IndexByteString", "internal/bytealg.IndexString", "internal/abi.NoEscape", "internal/bytealg.MakeNoZero"], unfollowed := true, recurses := true, named := ["unicode/utf8.first", "unicode/utf8.acceptRanges", "internal/bytealg.MaxLen", "herald/place.named", "internal/strconv.uint64pow10", "math/bits.deBruijn32tab", "math/bits.deBruijn64tab"], apart := false, laid := [("math/bits.deBruijn32tab", laid_math_bits_deBruijn32tab), ("math/bits.deBruijn64tab", laid_math_bits_deBruijn64tab), ("internal/strconv.uint64pow10", laid_internal_strconv_uint64pow10), ("unicode/utf8.acceptRanges", laid_unicode_utf8_acceptRanges), ("herald/place.named", laid_herald_place_named), ("unicode/utf8.first", laid_unicode_utf8_first)], narrowed := true }
def PlaceCountsUptoSaid : Prop := placeCountsUptoRow.holds Tryd.pinned (OpenSpec.upto placeCountsSpec)

/-- 'heraldlaw1.PlaceLoose', WHERE WHAT IT READS IS OF BULK AT MOST 1048576: true; the input reads as it did. -/
def placeLooseUptoRow : OpenClaim := { program := "ytfdinkofcjcahaadoor", sum := "0bfc81660f3cf09a39c831023b9da0c118b00f463c7aaa7766cbd79abb755dd8", func := "herald/heraldlaw1.PlaceLoose", spec := "placeLoose", inPlace := ["internal/bytealg.CountString", "internal/bytealg.IndexByteString", "internal/bytealg.IndexString", "internal/abi.NoEscape", "internal/bytealg.MakeNoZero"], unfollowed := true, recurses := true, named := ["unicode/utf8.first", "unicode/utf8.acceptRanges", "internal/bytealg.MaxLen", "herald/place.named", "internal/strconv.uint64pow10", "math/bits.deBruijn32tab", "math/bits.deBruijn64tab"], apart := false, laid := [("math/bits.deBruijn32tab", laid_math_bits_deBruijn32tab), ("math/bits.deBruijn64tab", laid_math_bits_deBruijn64tab), ("internal/strconv.uint64pow10", laid_internal_strconv_uint64pow10), ("unicode/utf8.acceptRanges", laid_unicode_utf8_acceptRanges), ("herald/place.named", laid_herald_place_named), ("unicode/utf8.first", laid_unicode_utf8_first)], narrowed := true }
def PlaceLooseUptoSaid : Prop := placeLooseUptoRow.holds Tryd.pinned (OpenSpec.upto placeLooseSpec)

/-- 'heraldlaw1.PlaceJoins', WHERE WHAT IT READS IS OF BULK AT MOST 1048576: true; the input reads as it did. -/
def placeJoinsUptoRow : OpenClaim := { program := "ytfdinkofcjcahaadoor", sum := "0bfc81660f3cf09a39c831023b9da0c118b00f463c7aaa7766cbd79abb755dd8", func := "herald/heraldlaw1.PlaceJoins", spec := "placeJoins", inPlace := ["internal/bytealg.CountString", "internal/bytealg.IndexByteString", "internal/bytealg.IndexString", "internal/abi.NoEscape", "internal/bytealg.MakeNoZero"], unfollowed := true, recurses := true, named := ["unicode/utf8.first", "unicode/utf8.acceptRanges", "internal/bytealg.MaxLen", "herald/place.named", "internal/strconv.uint64pow10", "math/bits.deBruijn32tab", "math/bits.deBruijn64tab"], apart := false, laid := [("math/bits.deBruijn32tab", laid_math_bits_deBruijn32tab), ("math/bits.deBruijn64tab", laid_math_bits_deBruijn64tab), ("internal/strconv.uint64pow10", laid_internal_strconv_uint64pow10), ("unicode/utf8.acceptRanges", laid_unicode_utf8_acceptRanges), ("herald/place.named", laid_herald_place_named), ("unicode/utf8.first", laid_unicode_utf8_first)], narrowed := true }
def PlaceJoinsUptoSaid : Prop := placeJoinsUptoRow.holds Tryd.pinned (OpenSpec.upto placeJoinsSpec)

/-- 'heraldlaw1.PlaceOwn', WHERE WHAT IT READS IS OF BULK AT MOST 1048576: true; the input reads as it did. -/
def placeOwnUptoRow : OpenClaim := { program := "ytfdinkofcjcahaadoor", sum := "0bfc81660f3cf09a39c831023b9da0c118b00f463c7aaa7766cbd79abb755dd8", func := "herald/heraldlaw1.PlaceOwn", spec := "placeOwn", inPlace := ["internal/bytealg.CountString", "internal/bytealg.IndexByteString", "internal/bytealg.IndexString", "internal/abi.NoEscape", "internal/bytealg.MakeNoZero"], unfollowed := true, recurses := true, named := ["unicode/utf8.first", "unicode/utf8.acceptRanges", "internal/bytealg.MaxLen", "herald/place.named", "internal/strconv.uint64pow10", "math/bits.deBruijn32tab", "math/bits.deBruijn64tab"], apart := false, laid := [("math/bits.deBruijn32tab", laid_math_bits_deBruijn32tab), ("math/bits.deBruijn64tab", laid_math_bits_deBruijn64tab), ("internal/strconv.uint64pow10", laid_internal_strconv_uint64pow10), ("unicode/utf8.acceptRanges", laid_unicode_utf8_acceptRanges), ("herald/place.named", laid_herald_place_named), ("unicode/utf8.first", laid_unicode_utf8_first)], narrowed := true }
def PlaceOwnUptoSaid : Prop := placeOwnUptoRow.holds Tryd.pinned (OpenSpec.upto placeOwnSpec)

/-- 'heraldlaw1.PlaceParents', WHERE WHAT IT READS IS OF BULK AT MOST 1048576: true; the input reads as it did. -/
def placeParentsUptoRow : OpenClaim := { program := "ytfdinkofcjcahaadoor", sum := "0bfc81660f3cf09a39c831023b9da0c118b00f463c7aaa7766cbd79abb755dd8", func := "herald/heraldlaw1.PlaceParents", spec := "placeParents", inPlace := ["internal/bytealg.CountString", "internal/bytealg.IndexByteString", "internal/bytealg.IndexString", "internal/abi.NoEscape", "internal/bytealg.MakeNoZero"], unfollowed := true, recurses := true, named := ["unicode/utf8.first", "unicode/utf8.acceptRanges", "internal/bytealg.MaxLen", "herald/place.named", "internal/strconv.uint64pow10", "math/bits.deBruijn32tab", "math/bits.deBruijn64tab"], apart := false, laid := [("math/bits.deBruijn32tab", laid_math_bits_deBruijn32tab), ("math/bits.deBruijn64tab", laid_math_bits_deBruijn64tab), ("internal/strconv.uint64pow10", laid_internal_strconv_uint64pow10), ("unicode/utf8.acceptRanges", laid_unicode_utf8_acceptRanges), ("herald/place.named", laid_herald_place_named), ("unicode/utf8.first", laid_unicode_utf8_first)], narrowed := true }
def PlaceParentsUptoSaid : Prop := placeParentsUptoRow.holds Tryd.pinned (OpenSpec.upto placeParentsSpec)

/-- 'heraldlaw1.PlaceDigits', WHERE WHAT IT READS IS OF BULK AT MOST 1048576: true; the input reads as it did. -/
def placeDigitsUptoRow : OpenClaim := { program := "ytfdinkofcjcahaadoor", sum := "0bfc81660f3cf09a39c831023b9da0c118b00f463c7aaa7766cbd79abb755dd8", func := "herald/heraldlaw1.PlaceDigits", spec := "placeDigits", inPlace := ["internal/bytealg.CountString", "internal/bytealg.IndexByteString", "internal/bytealg.IndexString", "internal/abi.NoEscape", "internal/bytealg.MakeNoZero"], unfollowed := true, recurses := true, named := ["unicode/utf8.first", "unicode/utf8.acceptRanges", "internal/bytealg.MaxLen", "herald/place.named", "internal/strconv.uint64pow10", "math/bits.deBruijn32tab", "math/bits.deBruijn64tab"], apart := false, laid := [("math/bits.deBruijn32tab", laid_math_bits_deBruijn32tab), ("math/bits.deBruijn64tab", laid_math_bits_deBruijn64tab), ("internal/strconv.uint64pow10", laid_internal_strconv_uint64pow10), ("unicode/utf8.acceptRanges", laid_unicode_utf8_acceptRanges), ("herald/place.named", laid_herald_place_named), ("unicode/utf8.first", laid_unicode_utf8_first)], narrowed := true }
def PlaceDigitsUptoSaid : Prop := placeDigitsUptoRow.holds Tryd.pinned (OpenSpec.upto placeDigitsSpec)

/-- 'heraldlaw1.PlaceKinds', WHERE WHAT IT READS IS OF BULK AT MOST 1048576: true; the input reads as it did. -/
def placeKindsUptoRow : OpenClaim := { program := "ytfdinkofcjcahaadoor", sum := "0bfc81660f3cf09a39c831023b9da0c118b00f463c7aaa7766cbd79abb755dd8", func := "herald/heraldlaw1.PlaceKinds", spec := "placeKinds", inPlace := ["internal/bytealg.CountString", "internal/bytealg.IndexByteString", "internal/bytealg.IndexString", "internal/abi.NoEscape", "internal/bytealg.MakeNoZero"], unfollowed := true, recurses := true, named := ["unicode/utf8.first", "unicode/utf8.acceptRanges", "internal/bytealg.MaxLen", "herald/place.named", "internal/strconv.uint64pow10", "math/bits.deBruijn32tab", "math/bits.deBruijn64tab"], apart := false, laid := [("math/bits.deBruijn32tab", laid_math_bits_deBruijn32tab), ("math/bits.deBruijn64tab", laid_math_bits_deBruijn64tab), ("internal/strconv.uint64pow10", laid_internal_strconv_uint64pow10), ("unicode/utf8.acceptRanges", laid_unicode_utf8_acceptRanges), ("herald/place.named", laid_herald_place_named), ("unicode/utf8.first", laid_unicode_utf8_first)], narrowed := true }
def PlaceKindsUptoSaid : Prop := placeKindsUptoRow.holds Tryd.pinned (OpenSpec.upto placeKindsSpec)

/-- 'heraldlaw1.PlaceBack', WHERE WHAT IT READS IS OF BULK AT MOST 1048576: true; the input reads as it did. -/
def placeBackUptoRow : OpenClaim := { program := "ytfdinkofcjcahaadoor", sum := "0bfc81660f3cf09a39c831023b9da0c118b00f463c7aaa7766cbd79abb755dd8", func := "herald/heraldlaw1.PlaceBack", spec := "placeBack", inPlace := ["internal/bytealg.CountString", "internal/bytealg.IndexByteString", "internal/bytealg.IndexString", "internal/abi.NoEscape", "internal/bytealg.MakeNoZero"], unfollowed := true, recurses := true, named := ["unicode/utf8.first", "unicode/utf8.acceptRanges", "internal/bytealg.MaxLen", "herald/place.named", "internal/strconv.uint64pow10", "math/bits.deBruijn32tab", "math/bits.deBruijn64tab"], apart := false, laid := [("math/bits.deBruijn32tab", laid_math_bits_deBruijn32tab), ("math/bits.deBruijn64tab", laid_math_bits_deBruijn64tab), ("internal/strconv.uint64pow10", laid_internal_strconv_uint64pow10), ("unicode/utf8.acceptRanges", laid_unicode_utf8_acceptRanges), ("herald/place.named", laid_herald_place_named), ("unicode/utf8.first", laid_unicode_utf8_first)], narrowed := true }
def PlaceBackUptoSaid : Prop := placeBackUptoRow.holds Tryd.pinned (OpenSpec.upto placeBackSpec)

/-- 'heraldlaw1.PlaceTogether', WHERE WHAT IT READS IS OF BULK AT MOST 1048576: true; the input reads as it did. -/
def placeTogetherUptoRow : OpenClaim := { program := "ytfdinkofcjcahaadoor", sum := "0bfc81660f3cf09a39c831023b9da0c118b00f463c7aaa7766cbd79abb755dd8", func := "herald/heraldlaw1.PlaceTogether", spec := "placeTogether", inPlace := ["internal/bytealg.CountString", "internal/bytealg.IndexByteString", "internal/bytealg.IndexString", "internal/abi.NoEscape", "internal/bytealg.MakeNoZero"], unfollowed := true, recurses := true, named := ["unicode/utf8.first", "unicode/utf8.acceptRanges", "internal/bytealg.MaxLen", "herald/place.named", "internal/strconv.uint64pow10", "math/bits.deBruijn32tab", "math/bits.deBruijn64tab"], apart := false, laid := [("math/bits.deBruijn32tab", laid_math_bits_deBruijn32tab), ("math/bits.deBruijn64tab", laid_math_bits_deBruijn64tab), ("internal/strconv.uint64pow10", laid_internal_strconv_uint64pow10), ("unicode/utf8.acceptRanges", laid_unicode_utf8_acceptRanges), ("herald/place.named", laid_herald_place_named), ("unicode/utf8.first", laid_unicode_utf8_first)], narrowed := true }
def PlaceTogetherUptoSaid : Prop := placeTogetherUptoRow.holds Tryd.pinned (OpenSpec.upto placeTogetherSpec)

end Rows
end Go.Proofs.YtfdinkofcjcahaaDoor
