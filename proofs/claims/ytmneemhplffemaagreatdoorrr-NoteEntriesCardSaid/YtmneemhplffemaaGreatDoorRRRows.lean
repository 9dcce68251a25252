/-
  NARROWER THAN 'FOR EVERY INPUT', by the rows' own cells (each row's printed sentence says how): NoteChecks: laid · NoteEncodes: laid · NoteDecodes: laid · NoteReturns: laid · NoteSays: laid · NoteEndsItself: laid · NoteTellsApart: laid · NoteEntries: laid · NoteMessages: laid · NoteFits: laid · NoteGreatest: laid · NoteTurned: laid.
  DERIVED. THE GIVEN ROWS OF THIS SEAT. 12 by the template 'for every input the law returns true; each argument reads behind the call as it read before'; 0 by the template 'total and deterministic' (their statements: YtmneemhplffemaaGreatDoorRRTotals.lean).
  GIVEN WITH THE SEED: the statements are not yours to turn. If you find one false, say at which input.
  Laid BY PROGRAM, IN A SANDBOX (cutbox-rows.mjs): the forced cells as the released guide's own fill.sh prints them over the translation 50cfaea96f32155e… (all of the seat's roots in one cut). By AI agents, Wed Nov 11 2026. No macro, syntax, notation, axiom, sorry.
-/
import Derived.Test.YtmneemhplffemaaGreatDoorRRChecked
import GoSem.PinnedTables
import GoSem.Claim
import GoSem.ClaimJoined
import GoSem.ClaimMapViews
import Derived.JoinedTies
import Derived.KernelRfl
namespace Go.Proofs.YtmneemhplffemaaGreatDoorRR
/- THE CELL 'sum', in the pinned program and in every row, IS THE sha256 OF THE DUMP (.gsa) THAT YtmneemhplffemaaGreatDoorRRProg.lean LOADS. Nothing in Lean hashes anything: it is a label: what it is worth is what the hold of that sum in a sandbox is worth. -/
noncomputable def Tryz.pinned : Pinned := { name := "ytmneemhplffemaagreatdoorrr", sum := "50cfaea96f32155e2bf172cdc3357f7f7031d4374fa6c81a0bc4e3522298e7cb", checked := Tryz.checked }
namespace Rows
def none {H : Type} : Left H := { results := [], args := [] }

/- WHAT THE LISTED PACKAGE-LEVEL VARIABLES READ AS WHEN THE CALL BEGINS. Each datum BY PROGRAM (the guide's laid-datum.mjs) off the statement by which the dump's own 'gosem.cut.vars' lays the variable. In a bare row this is a premise. The card (YtmneemhplffemaaGreatDoorRRCards.lean) ties it to the program's text. -/
def laid_unicode_utf8_acceptRanges {H : Type} : DataW H := .agg [.agg [.lit (.int .u8 128), .lit (.int .u8 191)], .agg [.lit (.int .u8 160), .lit (.int .u8 191)], .agg [.lit (.int .u8 128), .lit (.int .u8 159)], .agg [.lit (.int .u8 144), .lit (.int .u8 191)], .agg [.lit (.int .u8 128), .lit (.int .u8 143)], .agg [.lit (.int .u8 0), .lit (.int .u8 0)], .agg [.lit (.int .u8 0), .lit (.int .u8 0)], .agg [.lit (.int .u8 0), .lit (.int .u8 0)], .agg [.lit (.int .u8 0), .lit (.int .u8 0)], .agg [.lit (.int .u8 0), .lit (.int .u8 0)], .agg [.lit (.int .u8 0), .lit (.int .u8 0)], .agg [.lit (.int .u8 0), .lit (.int .u8 0)], .agg [.lit (.int .u8 0), .lit (.int .u8 0)], .agg [.lit (.int .u8 0), .lit (.int .u8 0)], .agg [.lit (.int .u8 0), .lit (.int .u8 0)], .agg [.lit (.int .u8 0), .lit (.int .u8 0)]]
def laid_herald_heraldref3_words {H : Type} : DataW H := .agg [.lit (.string [45]), .lit (.string [115]), .lit (.string [115, 114, 111]), .lit (.string [115]), .lit (.string [115, 99]), .lit (.string [115, 99, 116, 119]), .lit (.string [115, 99, 119]), .lit (.string [115, 99, 119]), .lit (.string [115, 99, 116]), .lit (.string [110, 115, 101]), .lit (.string [110, 115, 114, 82]), .lit (.string [110, 115]), .lit (.string [110, 115, 99, 116, 101]), .lit (.string [110, 115, 99, 116, 101, 112]), .lit (.string [110, 115, 99, 119, 105]), .lit (.string [118]), .lit (.string [110, 116, 102]), .lit (.string [110, 116, 102, 69, 109]), .lit (.string [110, 116]), .lit (.string [110, 116, 102, 83]), .lit (.string [110]), .lit (.string []), .lit (.string [118]), .lit (.string [110]), .lit (.string [110, 115, 99, 119])]
def laid_herald_place_named {H : Type} : DataW H := .agg [.lit (.int .u8 0), .lit (.int .u8 0), .lit (.int .u8 0), .lit (.int .u8 0), .lit (.int .u8 0), .lit (.int .u8 0), .lit (.int .u8 0), .lit (.int .u8 0), .lit (.int .u8 0), .lit (.int .u8 0), .lit (.int .u8 0), .lit (.int .u8 0), .lit (.int .u8 0), .lit (.int .u8 0), .lit (.int .u8 0), .lit (.int .u8 0), .lit (.int .u8 0), .lit (.int .u8 0), .lit (.int .u8 0), .lit (.int .u8 0), .lit (.int .u8 0), .lit (.int .u8 0), .lit (.int .u8 0), .lit (.int .u8 0), .lit (.int .u8 0), .lit (.int .u8 0), .lit (.int .u8 0), .lit (.int .u8 0), .lit (.int .u8 0), .lit (.int .u8 0), .lit (.int .u8 0), .lit (.int .u8 0), .lit (.int .u8 0), .lit (.int .u8 0), .lit (.int .u8 0), .lit (.int .u8 0), .lit (.int .u8 0), .lit (.int .u8 0), .lit (.int .u8 0), .lit (.int .u8 0), .lit (.int .u8 0), .lit (.int .u8 0), .lit (.int .u8 0), .lit (.int .u8 0), .lit (.int .u8 0), .lit (.int .u8 1), .lit (.int .u8 1), .lit (.int .u8 0), .lit (.int .u8 1), .lit (.int .u8 1), .lit (.int .u8 1), .lit (.int .u8 1), .lit (.int .u8 1), .lit (.int .u8 1), .lit (.int .u8 1), .lit (.int .u8 1), .lit (.int .u8 1), .lit (.int .u8 1), .lit (.int .u8 0), .lit (.int .u8 0), .lit (.int .u8 0), .lit (.int .u8 0), .lit (.int .u8 0), .lit (.int .u8 0), .lit (.int .u8 0), .lit (.int .u8 1), .lit (.int .u8 1), .lit (.int .u8 1), .lit (.int .u8 1), .lit (.int .u8 1), .lit (.int .u8 1), .lit (.int .u8 1), .lit (.int .u8 1), .lit (.int .u8 1), .lit (.int .u8 1), .lit (.int .u8 1), .lit (.int .u8 1), .lit (.int .u8 1), .lit (.int .u8 1), .lit (.int .u8 1), .lit (.int .u8 1), .lit (.int .u8 1), .lit (.int .u8 1), .lit (.int .u8 1), .lit (.int .u8 1), .lit (.int .u8 1), .lit (.int .u8 1), .lit (.int .u8 1), .lit (.int .u8 1), .lit (.int .u8 1), .lit (.int .u8 1), .lit (.int .u8 0), .lit (.int .u8 0), .lit (.int .u8 0), .lit (.int .u8 0), .lit (.int .u8 1), .lit (.int .u8 0), .lit (.int .u8 1), .lit (.int .u8 1), .lit (.int .u8 1), .lit (.int .u8 1), .lit (.int .u8 1), .lit (.int .u8 1), .lit (.int .u8 1), .lit (.int .u8 1), .lit (.int .u8 1), .lit (.int .u8 1), .lit (.int .u8 1), .lit (.int .u8 1), .lit (.int .u8 1), .lit (.int .u8 1), .lit (.int .u8 1), .lit (.int .u8 1), .lit (.int .u8 1), .lit (.int .u8 1), .lit (.int .u8 1), .lit (.int .u8 1), .lit (.int .u8 1), .lit (.int .u8 1), .lit (.int .u8 1), .lit (.int .u8 1), .lit (.int .u8 1), .lit (.int .u8 1), .lit (.int .u8 0), .lit (.int .u8 0), .lit (.int .u8 0), .lit (.int .u8 0), .lit (.int .u8 0)]
def laid_herald_note_has {H : Type} : DataW H := .agg [.lit (.string []), .lit (.string [115]), .lit (.string [115, 114, 111]), .lit (.string [115]), .lit (.string [115, 99]), .lit (.string [115, 99, 116, 87]), .lit (.string [115, 99, 119]), .lit (.string [115, 99, 100]), .lit (.string [115, 99, 116]), .lit (.string [110, 115, 101]), .lit (.string [110, 115, 114, 121]), .lit (.string [110, 115]), .lit (.string [110, 115, 99, 116, 101]), .lit (.string [110, 115, 99, 116, 101, 80]), .lit (.string [110, 115, 99, 68, 73]), .lit (.string [118]), .lit (.string [110, 116, 102]), .lit (.string [110, 116, 102, 69, 109]), .lit (.string [110, 116]), .lit (.string [110, 116, 102, 97]), .lit (.string [110]), .lit (.string []), .lit (.string [118]), .lit (.string [110]), .lit (.string [110, 115, 99, 100])]
/-- One of Go's own tables, pinned by name: the form's constant. -/
def laid_unicode_utf8_first : DataW Unit := Go.Pinned.utf8First

/-- 'heraldlaw3.NoteChecks': WHATEVER THE INPUT: true; the input reads as it did. -/
def noteChecksSpec : ChangeSpec := { name := "noteChecks", fn := fun _ => fun
  | [d] => { results := [.lit (.bool true)], args := [d] }
  | _ => none }
def noteChecksRow : OpenClaim := { program := "ytmneemhplffemaagreatdoorrr", sum := "50cfaea96f32155e2bf172cdc3357f7f7031d4374fa6c81a0bc4e3522298e7cb", func := "herald/heraldlaw3.NoteChecks", spec := "noteChecks", inPlace := ["internal/bytealg.CountString", "internal/bytealg.IndexByteString", "internal/bytealg.IndexString"], unfollowed := true, recurses := true, named := ["herald/note.has", "unicode/utf8.first", "unicode/utf8.acceptRanges", "internal/bytealg.MaxLen", "herald/place.named", "herald/heraldref3.words"], apart := false, laid := [("unicode/utf8.acceptRanges", laid_unicode_utf8_acceptRanges), ("herald/heraldref3.words", laid_herald_heraldref3_words), ("herald/place.named", laid_herald_place_named), ("herald/note.has", laid_herald_note_has), ("unicode/utf8.first", laid_unicode_utf8_first)] }
def NoteChecksSaid : Prop := noteChecksRow.holds Tryz.pinned (OpenSpec.ofChange noteChecksSpec)

/-- ITS FALSE NEIGHBOUR: 'it returns false'. Refute it at one input. -/
def noteChecksWrong : ChangeSpec := { name := "noteChecks", fn := fun _ => fun
  | [d] => { results := [.lit (.bool false)], args := [d] }
  | _ => none }
def NoteChecksWrongFalsely : Prop := noteChecksRow.holds Tryz.pinned (OpenSpec.ofChange noteChecksWrong)

/-- 'heraldlaw3.NoteEncodes': WHATEVER THE INPUT: true; the input reads as it did. -/
def noteEncodesSpec : ChangeSpec := { name := "noteEncodes", fn := fun _ => fun
  | [d] => { results := [.lit (.bool true)], args := [d] }
  | _ => none }
def noteEncodesRow : OpenClaim := { program := "ytmneemhplffemaagreatdoorrr", sum := "50cfaea96f32155e2bf172cdc3357f7f7031d4374fa6c81a0bc4e3522298e7cb", func := "herald/heraldlaw3.NoteEncodes", spec := "noteEncodes", inPlace := ["internal/bytealg.CountString", "internal/bytealg.IndexByteString", "internal/bytealg.IndexString"], unfollowed := true, recurses := true, named := ["herald/note.has", "unicode/utf8.first", "unicode/utf8.acceptRanges", "internal/bytealg.MaxLen", "herald/place.named", "herald/heraldref3.words"], apart := false, laid := [("unicode/utf8.acceptRanges", laid_unicode_utf8_acceptRanges), ("herald/heraldref3.words", laid_herald_heraldref3_words), ("herald/place.named", laid_herald_place_named), ("herald/note.has", laid_herald_note_has), ("unicode/utf8.first", laid_unicode_utf8_first)] }
def NoteEncodesSaid : Prop := noteEncodesRow.holds Tryz.pinned (OpenSpec.ofChange noteEncodesSpec)

/-- ITS FALSE NEIGHBOUR: 'it returns false'. Refute it at one input. -/
def noteEncodesWrong : ChangeSpec := { name := "noteEncodes", fn := fun _ => fun
  | [d] => { results := [.lit (.bool false)], args := [d] }
  | _ => none }
def NoteEncodesWrongFalsely : Prop := noteEncodesRow.holds Tryz.pinned (OpenSpec.ofChange noteEncodesWrong)

/-- 'heraldlaw3.NoteDecodes': WHATEVER THE INPUT: true; the input reads as it did. -/
def noteDecodesSpec : ChangeSpec := { name := "noteDecodes", fn := fun _ => fun
  | [d1, d2] => { results := [.lit (.bool true)], args := [d1, d2] }
  | _ => none }
def noteDecodesRow : OpenClaim := { program := "ytmneemhplffemaagreatdoorrr", sum := "50cfaea96f32155e2bf172cdc3357f7f7031d4374fa6c81a0bc4e3522298e7cb", func := "herald/heraldlaw3.NoteDecodes", spec := "noteDecodes", inPlace := ["internal/bytealg.CountString", "internal/bytealg.IndexByteString", "internal/bytealg.IndexString"], unfollowed := true, recurses := true, named := ["herald/note.has", "unicode/utf8.first", "unicode/utf8.acceptRanges", "internal/bytealg.MaxLen", "herald/place.named", "herald/heraldref3.words"], apart := false, laid := [("unicode/utf8.acceptRanges", laid_unicode_utf8_acceptRanges), ("herald/heraldref3.words", laid_herald_heraldref3_words), ("herald/place.named", laid_herald_place_named), ("herald/note.has", laid_herald_note_has), ("unicode/utf8.first", laid_unicode_utf8_first)] }
def NoteDecodesSaid : Prop := noteDecodesRow.holds Tryz.pinned (OpenSpec.ofChange noteDecodesSpec)

/-- ITS FALSE NEIGHBOUR: 'it returns false'. Refute it at one input. -/
def noteDecodesWrong : ChangeSpec := { name := "noteDecodes", fn := fun _ => fun
  | [d1, d2] => { results := [.lit (.bool false)], args := [d1, d2] }
  | _ => none }
def NoteDecodesWrongFalsely : Prop := noteDecodesRow.holds Tryz.pinned (OpenSpec.ofChange noteDecodesWrong)

/-- 'heraldlaw3.NoteReturns': WHATEVER THE INPUT: true; the input reads as it did. -/
def noteReturnsSpec : ChangeSpec := { name := "noteReturns", fn := fun _ => fun
  | [d] => { results := [.lit (.bool true)], args := [d] }
  | _ => none }
def noteReturnsRow : OpenClaim := { program := "ytmneemhplffemaagreatdoorrr", sum := "50cfaea96f32155e2bf172cdc3357f7f7031d4374fa6c81a0bc4e3522298e7cb", func := "herald/heraldlaw3.NoteReturns", spec := "noteReturns", inPlace := ["internal/bytealg.CountString", "internal/bytealg.IndexByteString", "internal/bytealg.IndexString"], unfollowed := true, recurses := true, named := ["herald/note.has", "unicode/utf8.first", "unicode/utf8.acceptRanges", "internal/bytealg.MaxLen", "herald/place.named"], apart := false, laid := [("unicode/utf8.acceptRanges", laid_unicode_utf8_acceptRanges), ("herald/place.named", laid_herald_place_named), ("herald/note.has", laid_herald_note_has), ("unicode/utf8.first", laid_unicode_utf8_first)] }
def NoteReturnsSaid : Prop := noteReturnsRow.holds Tryz.pinned (OpenSpec.ofChange noteReturnsSpec)

/-- ITS FALSE NEIGHBOUR: 'it returns false'. Refute it at one input. -/
def noteReturnsWrong : ChangeSpec := { name := "noteReturns", fn := fun _ => fun
  | [d] => { results := [.lit (.bool false)], args := [d] }
  | _ => none }
def NoteReturnsWrongFalsely : Prop := noteReturnsRow.holds Tryz.pinned (OpenSpec.ofChange noteReturnsWrong)

/-- 'heraldlaw3.NoteSays': WHATEVER THE INPUT: true; the input reads as it did. -/
def noteSaysSpec : ChangeSpec := { name := "noteSays", fn := fun _ => fun
  | [d] => { results := [.lit (.bool true)], args := [d] }
  | _ => none }
def noteSaysRow : OpenClaim := { program := "ytmneemhplffemaagreatdoorrr", sum := "50cfaea96f32155e2bf172cdc3357f7f7031d4374fa6c81a0bc4e3522298e7cb", func := "herald/heraldlaw3.NoteSays", spec := "noteSays", inPlace := ["internal/bytealg.CountString", "internal/bytealg.IndexByteString", "internal/bytealg.IndexString"], unfollowed := true, recurses := true, named := ["herald/note.has", "unicode/utf8.first", "unicode/utf8.acceptRanges", "internal/bytealg.MaxLen", "herald/place.named"], apart := false, laid := [("unicode/utf8.acceptRanges", laid_unicode_utf8_acceptRanges), ("herald/place.named", laid_herald_place_named), ("herald/note.has", laid_herald_note_has), ("unicode/utf8.first", laid_unicode_utf8_first)] }
def NoteSaysSaid : Prop := noteSaysRow.holds Tryz.pinned (OpenSpec.ofChange noteSaysSpec)

/-- ITS FALSE NEIGHBOUR: 'it returns false'. Refute it at one input. -/
def noteSaysWrong : ChangeSpec := { name := "noteSays", fn := fun _ => fun
  | [d] => { results := [.lit (.bool false)], args := [d] }
  | _ => none }
def NoteSaysWrongFalsely : Prop := noteSaysRow.holds Tryz.pinned (OpenSpec.ofChange noteSaysWrong)

/-- 'heraldlaw3.NoteEndsItself': WHATEVER THE INPUT: true; the input reads as it did. -/
def noteEndsItselfSpec : ChangeSpec := { name := "noteEndsItself", fn := fun _ => fun
  | [d1, d2, d3] => { results := [.lit (.bool true)], args := [d1, d2, d3] }
  | _ => none }
def noteEndsItselfRow : OpenClaim := { program := "ytmneemhplffemaagreatdoorrr", sum := "50cfaea96f32155e2bf172cdc3357f7f7031d4374fa6c81a0bc4e3522298e7cb", func := "herald/heraldlaw3.NoteEndsItself", spec := "noteEndsItself", inPlace := ["internal/bytealg.CountString", "internal/bytealg.IndexByteString", "internal/bytealg.IndexString"], unfollowed := true, recurses := true, named := ["herald/note.has", "unicode/utf8.first", "unicode/utf8.acceptRanges", "internal/bytealg.MaxLen", "herald/place.named"], apart := false, laid := [("unicode/utf8.acceptRanges", laid_unicode_utf8_acceptRanges), ("herald/place.named", laid_herald_place_named), ("herald/note.has", laid_herald_note_has), ("unicode/utf8.first", laid_unicode_utf8_first)] }
def NoteEndsItselfSaid : Prop := noteEndsItselfRow.holds Tryz.pinned (OpenSpec.ofChange noteEndsItselfSpec)

/-- ITS FALSE NEIGHBOUR: 'it returns false'. Refute it at one input. -/
def noteEndsItselfWrong : ChangeSpec := { name := "noteEndsItself", fn := fun _ => fun
  | [d1, d2, d3] => { results := [.lit (.bool false)], args := [d1, d2, d3] }
  | _ => none }
def NoteEndsItselfWrongFalsely : Prop := noteEndsItselfRow.holds Tryz.pinned (OpenSpec.ofChange noteEndsItselfWrong)

/-- 'heraldlaw3.NoteTellsApart': WHATEVER THE INPUT: true; the input reads as it did. -/
def noteTellsApartSpec : ChangeSpec := { name := "noteTellsApart", fn := fun _ => fun
  | [d1, d2] => { results := [.lit (.bool true)], args := [d1, d2] }
  | _ => none }
def noteTellsApartRow : OpenClaim := { program := "ytmneemhplffemaagreatdoorrr", sum := "50cfaea96f32155e2bf172cdc3357f7f7031d4374fa6c81a0bc4e3522298e7cb", func := "herald/heraldlaw3.NoteTellsApart", spec := "noteTellsApart", inPlace := ["internal/bytealg.CountString", "internal/bytealg.IndexByteString", "internal/bytealg.IndexString"], unfollowed := true, recurses := true, named := ["herald/note.has", "unicode/utf8.first", "unicode/utf8.acceptRanges", "internal/bytealg.MaxLen", "herald/place.named"], apart := false, laid := [("unicode/utf8.acceptRanges", laid_unicode_utf8_acceptRanges), ("herald/place.named", laid_herald_place_named), ("herald/note.has", laid_herald_note_has), ("unicode/utf8.first", laid_unicode_utf8_first)] }
def NoteTellsApartSaid : Prop := noteTellsApartRow.holds Tryz.pinned (OpenSpec.ofChange noteTellsApartSpec)

/-- ITS FALSE NEIGHBOUR: 'it returns false'. Refute it at one input. -/
def noteTellsApartWrong : ChangeSpec := { name := "noteTellsApart", fn := fun _ => fun
  | [d1, d2] => { results := [.lit (.bool false)], args := [d1, d2] }
  | _ => none }
def NoteTellsApartWrongFalsely : Prop := noteTellsApartRow.holds Tryz.pinned (OpenSpec.ofChange noteTellsApartWrong)

/-- 'heraldlaw3.NoteEntries': WHATEVER THE INPUT: true; the input reads as it did. -/
def noteEntriesSpec : ChangeSpec := { name := "noteEntries", fn := fun _ => fun
  | [d1, d2] => { results := [.lit (.bool true)], args := [d1, d2] }
  | _ => none }
def noteEntriesRow : OpenClaim := { program := "ytmneemhplffemaagreatdoorrr", sum := "50cfaea96f32155e2bf172cdc3357f7f7031d4374fa6c81a0bc4e3522298e7cb", func := "herald/heraldlaw3.NoteEntries", spec := "noteEntries", inPlace := ["internal/bytealg.CountString", "internal/bytealg.IndexByteString", "internal/bytealg.IndexString"], unfollowed := true, recurses := true, named := ["herald/note.has", "unicode/utf8.first", "unicode/utf8.acceptRanges", "internal/bytealg.MaxLen", "herald/place.named"], apart := false, laid := [("unicode/utf8.acceptRanges", laid_unicode_utf8_acceptRanges), ("herald/place.named", laid_herald_place_named), ("herald/note.has", laid_herald_note_has), ("unicode/utf8.first", laid_unicode_utf8_first)] }
def NoteEntriesSaid : Prop := noteEntriesRow.holds Tryz.pinned (OpenSpec.ofChange noteEntriesSpec)

/-- ITS FALSE NEIGHBOUR: 'it returns false'. Refute it at one input. -/
def noteEntriesWrong : ChangeSpec := { name := "noteEntries", fn := fun _ => fun
  | [d1, d2] => { results := [.lit (.bool false)], args := [d1, d2] }
  | _ => none }
def NoteEntriesWrongFalsely : Prop := noteEntriesRow.holds Tryz.pinned (OpenSpec.ofChange noteEntriesWrong)

/-- 'heraldlaw3.NoteMessages': WHATEVER THE INPUT: true; the input reads as it did. -/
def noteMessagesSpec : ChangeSpec := { name := "noteMessages", fn := fun _ => fun
  | [d1, d2, d3] => { results := [.lit (.bool true)], args := [d1, d2, d3] }
  | _ => none }
def noteMessagesRow : OpenClaim := { program := "ytmneemhplffemaagreatdoorrr", sum := "50cfaea96f32155e2bf172cdc3357f7f7031d4374fa6c81a0bc4e3522298e7cb", func := "herald/heraldlaw3.NoteMessages", spec := "noteMessages", inPlace := ["internal/bytealg.CountString", "internal/bytealg.IndexByteString", "internal/bytealg.IndexString"], unfollowed := true, recurses := true, named := ["herald/note.has", "unicode/utf8.first", "unicode/utf8.acceptRanges", "internal/bytealg.MaxLen", "herald/place.named", "herald/heraldref3.words"], apart := false, laid := [("unicode/utf8.acceptRanges", laid_unicode_utf8_acceptRanges), ("herald/heraldref3.words", laid_herald_heraldref3_words), ("herald/place.named", laid_herald_place_named), ("herald/note.has", laid_herald_note_has), ("unicode/utf8.first", laid_unicode_utf8_first)] }
def NoteMessagesSaid : Prop := noteMessagesRow.holds Tryz.pinned (OpenSpec.ofChange noteMessagesSpec)

/-- ITS FALSE NEIGHBOUR: 'it returns false'. Refute it at one input. -/
def noteMessagesWrong : ChangeSpec := { name := "noteMessages", fn := fun _ => fun
  | [d1, d2, d3] => { results := [.lit (.bool false)], args := [d1, d2, d3] }
  | _ => none }
def NoteMessagesWrongFalsely : Prop := noteMessagesRow.holds Tryz.pinned (OpenSpec.ofChange noteMessagesWrong)

/-- 'heraldlaw3.NoteFits': WHATEVER THE INPUT: true; the input reads as it did. -/
def noteFitsSpec : ChangeSpec := { name := "noteFits", fn := fun _ => fun
  | [d1, d2, d3] => { results := [.lit (.bool true)], args := [d1, d2, d3] }
  | _ => none }
def noteFitsRow : OpenClaim := { program := "ytmneemhplffemaagreatdoorrr", sum := "50cfaea96f32155e2bf172cdc3357f7f7031d4374fa6c81a0bc4e3522298e7cb", func := "herald/heraldlaw3.NoteFits", spec := "noteFits", inPlace := ["internal/bytealg.CountString", "internal/bytealg.IndexByteString", "internal/bytealg.IndexString"], unfollowed := true, recurses := true, named := ["herald/note.has", "unicode/utf8.first", "unicode/utf8.acceptRanges", "internal/bytealg.MaxLen", "herald/place.named"], apart := false, laid := [("unicode/utf8.acceptRanges", laid_unicode_utf8_acceptRanges), ("herald/place.named", laid_herald_place_named), ("herald/note.has", laid_herald_note_has), ("unicode/utf8.first", laid_unicode_utf8_first)] }
def NoteFitsSaid : Prop := noteFitsRow.holds Tryz.pinned (OpenSpec.ofChange noteFitsSpec)

/-- ITS FALSE NEIGHBOUR: 'it returns false'. Refute it at one input. -/
def noteFitsWrong : ChangeSpec := { name := "noteFits", fn := fun _ => fun
  | [d1, d2, d3] => { results := [.lit (.bool false)], args := [d1, d2, d3] }
  | _ => none }
def NoteFitsWrongFalsely : Prop := noteFitsRow.holds Tryz.pinned (OpenSpec.ofChange noteFitsWrong)

/-- 'heraldlaw3.NoteGreatest': WHATEVER THE INPUT: true; the input reads as it did. -/
def noteGreatestSpec : ChangeSpec := { name := "noteGreatest", fn := fun _ => fun
  | [d] => { results := [.lit (.bool true)], args := [d] }
  | _ => none }
def noteGreatestRow : OpenClaim := { program := "ytmneemhplffemaagreatdoorrr", sum := "50cfaea96f32155e2bf172cdc3357f7f7031d4374fa6c81a0bc4e3522298e7cb", func := "herald/heraldlaw3.NoteGreatest", spec := "noteGreatest", inPlace := ["internal/bytealg.CountString", "internal/bytealg.IndexByteString", "internal/bytealg.IndexString"], unfollowed := true, recurses := true, named := ["herald/note.has", "unicode/utf8.first", "unicode/utf8.acceptRanges", "internal/bytealg.MaxLen", "herald/place.named"], apart := false, laid := [("unicode/utf8.acceptRanges", laid_unicode_utf8_acceptRanges), ("herald/place.named", laid_herald_place_named), ("herald/note.has", laid_herald_note_has), ("unicode/utf8.first", laid_unicode_utf8_first)] }
def NoteGreatestSaid : Prop := noteGreatestRow.holds Tryz.pinned (OpenSpec.ofChange noteGreatestSpec)

/-- ITS FALSE NEIGHBOUR: 'it returns false'. Refute it at one input. -/
def noteGreatestWrong : ChangeSpec := { name := "noteGreatest", fn := fun _ => fun
  | [d] => { results := [.lit (.bool false)], args := [d] }
  | _ => none }
def NoteGreatestWrongFalsely : Prop := noteGreatestRow.holds Tryz.pinned (OpenSpec.ofChange noteGreatestWrong)

/-- 'heraldlaw3.NoteTurned': WHATEVER THE INPUT: true; the input reads as it did. -/
def noteTurnedSpec : ChangeSpec := { name := "noteTurned", fn := fun _ => fun
  | [d1, d2, d3] => { results := [.lit (.bool true)], args := [d1, d2, d3] }
  | _ => none }
def noteTurnedRow : OpenClaim := { program := "ytmneemhplffemaagreatdoorrr", sum := "50cfaea96f32155e2bf172cdc3357f7f7031d4374fa6c81a0bc4e3522298e7cb", func := "herald/heraldlaw3.NoteTurned", spec := "noteTurned", inPlace := ["internal/bytealg.CountString", "internal/bytealg.IndexByteString", "internal/bytealg.IndexString"], unfollowed := true, recurses := true, named := ["herald/note.has", "unicode/utf8.first", "unicode/utf8.acceptRanges", "internal/bytealg.MaxLen", "herald/place.named"], apart := false, laid := [("unicode/utf8.acceptRanges", laid_unicode_utf8_acceptRanges), ("herald/place.named", laid_herald_place_named), ("herald/note.has", laid_herald_note_has), ("unicode/utf8.first", laid_unicode_utf8_first)] }
def NoteTurnedSaid : Prop := noteTurnedRow.holds Tryz.pinned (OpenSpec.ofChange noteTurnedSpec)

/-- ITS FALSE NEIGHBOUR: 'it returns false'. Refute it at one input. -/
def noteTurnedWrong : ChangeSpec := { name := "noteTurned", fn := fun _ => fun
  | [d1, d2, d3] => { results := [.lit (.bool false)], args := [d1, d2, d3] }
  | _ => none }
def NoteTurnedWrongFalsely : Prop := noteTurnedRow.holds Tryz.pinned (OpenSpec.ofChange noteTurnedWrong)

/- THE SECOND FORM. 'bulk': how many values and letters a reading holds, each counted each time it is reached (what is shared counts as often as it is met; a slice's spare places count too). A statement '..UptoSaid' is the law's where the arguments, and the package variables that the reading takes, are together of bulk at most 1048576: NARROWER than '..Said'. Prove '..Said' where nothing that the law and all that it calls make is longer than what came in: it says more and counts as full. Else prove '..UptoSaid'. A law counts once. -/
mutual
def uptoBulk {H : Type} : DataW H → Nat
  | .lit (.string bytes) => bytes.length + 1
  | .lit _ => 1
  | .nil => 1
  | .ptr d => uptoBulk d + 1
  | .slice elems spare => uptoBulkAll elems + uptoBulkAll spare + 1
  | .agg parts => uptoBulkAll parts + 1
  | .iface _ d => uptoBulk d + 1
  | .map entries => uptoBulkEntries entries + 1
  | .held _ => 1
def uptoBulkAll {H : Type} : List (DataW H) → Nat
  | [] => 0
  | d :: r => uptoBulk d + uptoBulkAll r
def uptoBulkEntries {H : Type} : List (Lit × DataW H) → Nat
  | [] => 0
  | x :: r => uptoBulkEntry x + uptoBulkEntries r
def uptoBulkEntry {H : Type} : Lit × DataW H → Nat
  | (.string bytes, d) => bytes.length + uptoBulk d + 1
  | (_, d) => uptoBulk d + 1
 end
def uptoSmall : (H : Type) → List (DataW H) → Bool := fun _ ds => decide (uptoBulkAll ds ≤ 1048576)
def OpenSpec.upto (s : _root_.Go.ChangeSpec) : _root_.Go.OpenSpec := { _root_.Go.OpenSpec.ofChange s with cond := some uptoSmall }

/-- 'heraldlaw3.NoteChecks', WHERE WHAT IT READS IS OF BULK AT MOST 1048576: true; the input reads as it did. -/
def noteChecksUptoRow : OpenClaim := { program := "ytmneemhplffemaagreatdoorrr", sum := "50cfaea96f32155e2bf172cdc3357f7f7031d4374fa6c81a0bc4e3522298e7cb", func := "herald/heraldlaw3.NoteChecks", spec := "noteChecks", inPlace := ["internal/bytealg.CountString", "internal/bytealg.IndexByteString", "internal/bytealg.IndexString"], unfollowed := true, recurses := true, named := ["herald/note.has", "unicode/utf8.first", "unicode/utf8.acceptRanges", "internal/bytealg.MaxLen", "herald/place.named", "herald/heraldref3.words"], apart := false, laid := [("unicode/utf8.acceptRanges", laid_unicode_utf8_acceptRanges), ("herald/heraldref3.words", laid_herald_heraldref3_words), ("herald/place.named", laid_herald_place_named), ("herald/note.has", laid_herald_note_has), ("unicode/utf8.first", laid_unicode_utf8_first)], narrowed := true }
def NoteChecksUptoSaid : Prop := noteChecksUptoRow.holds Tryz.pinned (OpenSpec.upto noteChecksSpec)

/-- 'heraldlaw3.NoteEncodes', WHERE WHAT IT READS IS OF BULK AT MOST 1048576: true; the input reads as it did. -/
def noteEncodesUptoRow : OpenClaim := { program := "ytmneemhplffemaagreatdoorrr", sum := "50cfaea96f32155e2bf172cdc3357f7f7031d4374fa6c81a0bc4e3522298e7cb", func := "herald/heraldlaw3.NoteEncodes", spec := "noteEncodes", inPlace := ["internal/bytealg.CountString", "internal/bytealg.IndexByteString", "internal/bytealg.IndexString"], unfollowed := true, recurses := true, named := ["herald/note.has", "unicode/utf8.first", "unicode/utf8.acceptRanges", "internal/bytealg.MaxLen", "herald/place.named", "herald/heraldref3.words"], apart := false, laid := [("unicode/utf8.acceptRanges", laid_unicode_utf8_acceptRanges), ("herald/heraldref3.words", laid_herald_heraldref3_words), ("herald/place.named", laid_herald_place_named), ("herald/note.has", laid_herald_note_has), ("unicode/utf8.first", laid_unicode_utf8_first)], narrowed := true }
def NoteEncodesUptoSaid : Prop := noteEncodesUptoRow.holds Tryz.pinned (OpenSpec.upto noteEncodesSpec)

/-- 'heraldlaw3.NoteDecodes', WHERE WHAT IT READS IS OF BULK AT MOST 1048576: true; the input reads as it did. -/
def noteDecodesUptoRow : OpenClaim := { program := "ytmneemhplffemaagreatdoorrr", sum := "50cfaea96f32155e2bf172cdc3357f7f7031d4374fa6c81a0bc4e3522298e7cb", func := "herald/heraldlaw3.NoteDecodes", spec := "noteDecodes", inPlace := ["internal/bytealg.CountString", "internal/bytealg.IndexByteString", "internal/bytealg.IndexString"], unfollowed := true, recurses := true, named := ["herald/note.has", "unicode/utf8.first", "unicode/utf8.acceptRanges", "internal/bytealg.MaxLen", "herald/place.named", "herald/heraldref3.words"], apart := false, laid := [("unicode/utf8.acceptRanges", laid_unicode_utf8_acceptRanges), ("herald/heraldref3.words", laid_herald_heraldref3_words), ("herald/place.named", laid_herald_place_named), ("herald/note.has", laid_herald_note_has), ("unicode/utf8.first", laid_unicode_utf8_first)], narrowed := true }
def NoteDecodesUptoSaid : Prop := noteDecodesUptoRow.holds Tryz.pinned (OpenSpec.upto noteDecodesSpec)

/-- 'heraldlaw3.NoteReturns', WHERE WHAT IT READS IS OF BULK AT MOST 1048576: true; the input reads as it did. -/
def noteReturnsUptoRow : OpenClaim := { program := "ytmneemhplffemaagreatdoorrr", sum := "50cfaea96f32155e2bf172cdc3357f7f7031d4374fa6c81a0bc4e3522298e7cb", func := "herald/heraldlaw3.NoteReturns", spec := "noteReturns", inPlace := ["internal/bytealg.CountString", "internal/bytealg.IndexByteString", "internal/bytealg.IndexString"], unfollowed := true, recurses := true, named := ["herald/note.has", "unicode/utf8.first", "unicode/utf8.acceptRanges", "internal/bytealg.MaxLen", "herald/place.named"], apart := false, laid := [("unicode/utf8.acceptRanges", laid_unicode_utf8_acceptRanges), ("herald/place.named", laid_herald_place_named), ("herald/note.has", laid_herald_note_has), ("unicode/utf8.first", laid_unicode_utf8_first)], narrowed := true }
def NoteReturnsUptoSaid : Prop := noteReturnsUptoRow.holds Tryz.pinned (OpenSpec.upto noteReturnsSpec)

/-- 'heraldlaw3.NoteSays', WHERE WHAT IT READS IS OF BULK AT MOST 1048576: true; the input reads as it did. -/
def noteSaysUptoRow : OpenClaim := { program := "ytmneemhplffemaagreatdoorrr", sum := "50cfaea96f32155e2bf172cdc3357f7f7031d4374fa6c81a0bc4e3522298e7cb", func := "herald/heraldlaw3.NoteSays", spec := "noteSays", inPlace := ["internal/bytealg.CountString", "internal/bytealg.IndexByteString", "internal/bytealg.IndexString"], unfollowed := true, recurses := true, named := ["herald/note.has", "unicode/utf8.first", "unicode/utf8.acceptRanges", "internal/bytealg.MaxLen", "herald/place.named"], apart := false, laid := [("unicode/utf8.acceptRanges", laid_unicode_utf8_acceptRanges), ("herald/place.named", laid_herald_place_named), ("herald/note.has", laid_herald_note_has), ("unicode/utf8.first", laid_unicode_utf8_first)], narrowed := true }
def NoteSaysUptoSaid : Prop := noteSaysUptoRow.holds Tryz.pinned (OpenSpec.upto noteSaysSpec)

/-- 'heraldlaw3.NoteEndsItself', WHERE WHAT IT READS IS OF BULK AT MOST 1048576: true; the input reads as it did. -/
def noteEndsItselfUptoRow : OpenClaim := { program := "ytmneemhplffemaagreatdoorrr", sum := "50cfaea96f32155e2bf172cdc3357f7f7031d4374fa6c81a0bc4e3522298e7cb", func := "herald/heraldlaw3.NoteEndsItself", spec := "noteEndsItself", inPlace := ["internal/bytealg.CountString", "internal/bytealg.IndexByteString", "internal/bytealg.IndexString"], unfollowed := true, recurses := true, named := ["herald/note.has", "unicode/utf8.first", "unicode/utf8.acceptRanges", "internal/bytealg.MaxLen", "herald/place.named"], apart := false, laid := [("unicode/utf8.acceptRanges", laid_unicode_utf8_acceptRanges), ("herald/place.named", laid_herald_place_named), ("herald/note.has", laid_herald_note_has), ("unicode/utf8.first", laid_unicode_utf8_first)], narrowed := true }
def NoteEndsItselfUptoSaid : Prop := noteEndsItselfUptoRow.holds Tryz.pinned (OpenSpec.upto noteEndsItselfSpec)

/-- 'heraldlaw3.NoteTellsApart', WHERE WHAT IT READS IS OF BULK AT MOST 1048576: true; the input reads as it did. -/
def noteTellsApartUptoRow : OpenClaim := { program := "ytmneemhplffemaagreatdoorrr", sum := "50cfaea96f32155e2bf172cdc3357f7f7031d4374fa6c81a0bc4e3522298e7cb", func := "herald/heraldlaw3.NoteTellsApart", spec := "noteTellsApart", inPlace := ["internal/bytealg.CountString", "internal/bytealg.IndexByteString", "internal/bytealg.IndexString"], unfollowed := true, recurses := true, named := ["herald/note.has", "unicode/utf8.first", "unicode/utf8.acceptRanges", "internal/bytealg.MaxLen", "herald/place.named"], apart := false, laid := [("unicode/utf8.acceptRanges", laid_unicode_utf8_acceptRanges), ("herald/place.named", laid_herald_place_named), ("herald/note.has", laid_herald_note_has), ("unicode/utf8.first", laid_unicode_utf8_first)], narrowed := true }
def NoteTellsApartUptoSaid : Prop := noteTellsApartUptoRow.holds Tryz.pinned (OpenSpec.upto noteTellsApartSpec)

/-- 'heraldlaw3.NoteEntries', WHERE WHAT IT READS IS OF BULK AT MOST 1048576: true; the input reads as it did. -/
def noteEntriesUptoRow : OpenClaim := { program := "ytmneemhplffemaagreatdoorrr", sum := "50cfaea96f32155e2bf172cdc3357f7f7031d4374fa6c81a0bc4e3522298e7cb", func := "herald/heraldlaw3.NoteEntries", spec := "noteEntries", inPlace := ["internal/bytealg.CountString", "internal/bytealg.IndexByteString", "internal/bytealg.IndexString"], unfollowed := true, recurses := true, named := ["herald/note.has", "unicode/utf8.first", "unicode/utf8.acceptRanges", "internal/bytealg.MaxLen", "herald/place.named"], apart := false, laid := [("unicode/utf8.acceptRanges", laid_unicode_utf8_acceptRanges), ("herald/place.named", laid_herald_place_named), ("herald/note.has", laid_herald_note_has), ("unicode/utf8.first", laid_unicode_utf8_first)], narrowed := true }
def NoteEntriesUptoSaid : Prop := noteEntriesUptoRow.holds Tryz.pinned (OpenSpec.upto noteEntriesSpec)

/-- 'heraldlaw3.NoteMessages', WHERE WHAT IT READS IS OF BULK AT MOST 1048576: true; the input reads as it did. -/
def noteMessagesUptoRow : OpenClaim := { program := "ytmneemhplffemaagreatdoorrr", sum := "50cfaea96f32155e2bf172cdc3357f7f7031d4374fa6c81a0bc4e3522298e7cb", func := "herald/heraldlaw3.NoteMessages", spec := "noteMessages", inPlace := ["internal/bytealg.CountString", "internal/bytealg.IndexByteString", "internal/bytealg.IndexString"], unfollowed := true, recurses := true, named := ["herald/note.has", "unicode/utf8.first", "unicode/utf8.acceptRanges", "internal/bytealg.MaxLen", "herald/place.named", "herald/heraldref3.words"], apart := false, laid := [("unicode/utf8.acceptRanges", laid_unicode_utf8_acceptRanges), ("herald/heraldref3.words", laid_herald_heraldref3_words), ("herald/place.named", laid_herald_place_named), ("herald/note.has", laid_herald_note_has), ("unicode/utf8.first", laid_unicode_utf8_first)], narrowed := true }
def NoteMessagesUptoSaid : Prop := noteMessagesUptoRow.holds Tryz.pinned (OpenSpec.upto noteMessagesSpec)

/-- 'heraldlaw3.NoteFits', WHERE WHAT IT READS IS OF BULK AT MOST 1048576: true; the input reads as it did. -/
def noteFitsUptoRow : OpenClaim := { program := "ytmneemhplffemaagreatdoorrr", sum := "50cfaea96f32155e2bf172cdc3357f7f7031d4374fa6c81a0bc4e3522298e7cb", func := "herald/heraldlaw3.NoteFits", spec := "noteFits", inPlace := ["internal/bytealg.CountString", "internal/bytealg.IndexByteString", "internal/bytealg.IndexString"], unfollowed := true, recurses := true, named := ["herald/note.has", "unicode/utf8.first", "unicode/utf8.acceptRanges", "internal/bytealg.MaxLen", "herald/place.named"], apart := false, laid := [("unicode/utf8.acceptRanges", laid_unicode_utf8_acceptRanges), ("herald/place.named", laid_herald_place_named), ("herald/note.has", laid_herald_note_has), ("unicode/utf8.first", laid_unicode_utf8_first)], narrowed := true }
def NoteFitsUptoSaid : Prop := noteFitsUptoRow.holds Tryz.pinned (OpenSpec.upto noteFitsSpec)

/-- 'heraldlaw3.NoteGreatest', WHERE WHAT IT READS IS OF BULK AT MOST 1048576: true; the input reads as it did. -/
def noteGreatestUptoRow : OpenClaim := { program := "ytmneemhplffemaagreatdoorrr", sum := "50cfaea96f32155e2bf172cdc3357f7f7031d4374fa6c81a0bc4e3522298e7cb", func := "herald/heraldlaw3.NoteGreatest", spec := "noteGreatest", inPlace := ["internal/bytealg.CountString", "internal/bytealg.IndexByteString", "internal/bytealg.IndexString"], unfollowed := true, recurses := true, named := ["herald/note.has", "unicode/utf8.first", "unicode/utf8.acceptRanges", "internal/bytealg.MaxLen", "herald/place.named"], apart := false, laid := [("unicode/utf8.acceptRanges", laid_unicode_utf8_acceptRanges), ("herald/place.named", laid_herald_place_named), ("herald/note.has", laid_herald_note_has), ("unicode/utf8.first", laid_unicode_utf8_first)], narrowed := true }
def NoteGreatestUptoSaid : Prop := noteGreatestUptoRow.holds Tryz.pinned (OpenSpec.upto noteGreatestSpec)

/-- 'heraldlaw3.NoteTurned', WHERE WHAT IT READS IS OF BULK AT MOST 1048576: true; the input reads as it did. -/
def noteTurnedUptoRow : OpenClaim := { program := "ytmneemhplffemaagreatdoorrr", sum := "50cfaea96f32155e2bf172cdc3357f7f7031d4374fa6c81a0bc4e3522298e7cb", func := "herald/heraldlaw3.NoteTurned", spec := "noteTurned", inPlace := ["internal/bytealg.CountString", "internal/bytealg.IndexByteString", "internal/bytealg.IndexString"], unfollowed := true, recurses := true, named := ["herald/note.has", "unicode/utf8.first", "unicode/utf8.acceptRanges", "internal/bytealg.MaxLen", "herald/place.named"], apart := false, laid := [("unicode/utf8.acceptRanges", laid_unicode_utf8_acceptRanges), ("herald/place.named", laid_herald_place_named), ("herald/note.has", laid_herald_note_has), ("unicode/utf8.first", laid_unicode_utf8_first)], narrowed := true }
def NoteTurnedUptoSaid : Prop := noteTurnedUptoRow.holds Tryz.pinned (OpenSpec.upto noteTurnedSpec)

end Rows
end Go.Proofs.YtmneemhplffemaaGreatDoorRR
