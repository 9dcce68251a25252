/-
  DERIVED. GIVEN WITH THE SEED: THE CARDS: each row of YtmneemhplffemaaGreatDoorRRRows.lean that lists a variable, with what it lists TIED to the program's text (the seventh form; the later family's looks); each row that meets fmt, with fmt's text TOLD by the authors' own Lean function (tested against real Go, not proved from fmt's source: count such statements apart). THE CARD IS WHAT COUNTS. Prove the row's statement (the work); the ties are given (YtmneemhplffemaaGreatDoorRRTie.lean); close each card by the builder's one call (the guide's Derived/Test/ToyasCard.lean, 'card_holds'). Laid BY PROGRAM, IN A SANDBOX (cutbox-door.mjs). By AI agents, Wed Nov 11 2026. No macro, syntax, notation, axiom, sorry.
-/
import Derived.Test.YtmneemhplffemaaGreatDoorRRRows
import GoSem.ClaimSeven
namespace Go.Proofs.YtmneemhplffemaaGreatDoorRR
namespace Rows

/-- THE TIED CARD OF 'heraldlaw3.NoteChecks'. -/
def noteChecksCard : Claim7 := { stood := { row := noteChecksRow, standIns := [], harness := (true, "f05992a950078f5332c36fadb74d8e9e974c16bb9a1c8f6d53886f831c36c292"), looks := true }, kinds := [], alts := [], laidByText := true, laidKinds := [.data, .data, .data, .data, .pinned], laidTests := true, laidLooks := .later }
def NoteChecksCardSaid : Prop := Claim7.holds Tryz.pinned (.plain (OpenSpec.ofChange noteChecksSpec)) noteChecksCard

/-- THE TIED CARD OF 'heraldlaw3.NoteEncodes'. -/
def noteEncodesCard : Claim7 := { stood := { row := noteEncodesRow, standIns := [], harness := (true, "f05992a950078f5332c36fadb74d8e9e974c16bb9a1c8f6d53886f831c36c292"), looks := true }, kinds := [], alts := [], laidByText := true, laidKinds := [.data, .data, .data, .data, .pinned], laidTests := true, laidLooks := .later }
def NoteEncodesCardSaid : Prop := Claim7.holds Tryz.pinned (.plain (OpenSpec.ofChange noteEncodesSpec)) noteEncodesCard

/-- THE TIED CARD OF 'heraldlaw3.NoteDecodes'. -/
def noteDecodesCard : Claim7 := { stood := { row := noteDecodesRow, standIns := [], harness := (true, "f05992a950078f5332c36fadb74d8e9e974c16bb9a1c8f6d53886f831c36c292"), looks := true }, kinds := [], alts := [], laidByText := true, laidKinds := [.data, .data, .data, .data, .pinned], laidTests := true, laidLooks := .later }
def NoteDecodesCardSaid : Prop := Claim7.holds Tryz.pinned (.plain (OpenSpec.ofChange noteDecodesSpec)) noteDecodesCard

/-- THE TIED CARD OF 'heraldlaw3.NoteReturns'. -/
def noteReturnsCard : Claim7 := { stood := { row := noteReturnsRow, standIns := [], harness := (true, "f05992a950078f5332c36fadb74d8e9e974c16bb9a1c8f6d53886f831c36c292"), looks := true }, kinds := [], alts := [], laidByText := true, laidKinds := [.data, .data, .data, .pinned], laidTests := true, laidLooks := .later }
def NoteReturnsCardSaid : Prop := Claim7.holds Tryz.pinned (.plain (OpenSpec.ofChange noteReturnsSpec)) noteReturnsCard

/-- THE TIED CARD OF 'heraldlaw3.NoteSays'. -/
def noteSaysCard : Claim7 := { stood := { row := noteSaysRow, standIns := [], harness := (true, "f05992a950078f5332c36fadb74d8e9e974c16bb9a1c8f6d53886f831c36c292"), looks := true }, kinds := [], alts := [], laidByText := true, laidKinds := [.data, .data, .data, .pinned], laidTests := true, laidLooks := .later }
def NoteSaysCardSaid : Prop := Claim7.holds Tryz.pinned (.plain (OpenSpec.ofChange noteSaysSpec)) noteSaysCard

/-- THE TIED CARD OF 'heraldlaw3.NoteEndsItself'. -/
def noteEndsItselfCard : Claim7 := { stood := { row := noteEndsItselfRow, standIns := [], harness := (true, "f05992a950078f5332c36fadb74d8e9e974c16bb9a1c8f6d53886f831c36c292"), looks := true }, kinds := [], alts := [], laidByText := true, laidKinds := [.data, .data, .data, .pinned], laidTests := true, laidLooks := .later }
def NoteEndsItselfCardSaid : Prop := Claim7.holds Tryz.pinned (.plain (OpenSpec.ofChange noteEndsItselfSpec)) noteEndsItselfCard

/-- THE TIED CARD OF 'heraldlaw3.NoteTellsApart'. -/
def noteTellsApartCard : Claim7 := { stood := { row := noteTellsApartRow, standIns := [], harness := (true, "f05992a950078f5332c36fadb74d8e9e974c16bb9a1c8f6d53886f831c36c292"), looks := true }, kinds := [], alts := [], laidByText := true, laidKinds := [.data, .data, .data, .pinned], laidTests := true, laidLooks := .later }
def NoteTellsApartCardSaid : Prop := Claim7.holds Tryz.pinned (.plain (OpenSpec.ofChange noteTellsApartSpec)) noteTellsApartCard

/-- THE TIED CARD OF 'heraldlaw3.NoteEntries'. -/
def noteEntriesCard : Claim7 := { stood := { row := noteEntriesRow, standIns := [], harness := (true, "f05992a950078f5332c36fadb74d8e9e974c16bb9a1c8f6d53886f831c36c292"), looks := true }, kinds := [], alts := [], laidByText := true, laidKinds := [.data, .data, .data, .pinned], laidTests := true, laidLooks := .later }
def NoteEntriesCardSaid : Prop := Claim7.holds Tryz.pinned (.plain (OpenSpec.ofChange noteEntriesSpec)) noteEntriesCard

/-- THE TIED CARD OF 'heraldlaw3.NoteMessages'. -/
def noteMessagesCard : Claim7 := { stood := { row := noteMessagesRow, standIns := [], harness := (true, "f05992a950078f5332c36fadb74d8e9e974c16bb9a1c8f6d53886f831c36c292"), looks := true }, kinds := [], alts := [], laidByText := true, laidKinds := [.data, .data, .data, .data, .pinned], laidTests := true, laidLooks := .later }
def NoteMessagesCardSaid : Prop := Claim7.holds Tryz.pinned (.plain (OpenSpec.ofChange noteMessagesSpec)) noteMessagesCard

/-- THE TIED CARD OF 'heraldlaw3.NoteFits'. -/
def noteFitsCard : Claim7 := { stood := { row := noteFitsRow, standIns := [], harness := (true, "f05992a950078f5332c36fadb74d8e9e974c16bb9a1c8f6d53886f831c36c292"), looks := true }, kinds := [], alts := [], laidByText := true, laidKinds := [.data, .data, .data, .pinned], laidTests := true, laidLooks := .later }
def NoteFitsCardSaid : Prop := Claim7.holds Tryz.pinned (.plain (OpenSpec.ofChange noteFitsSpec)) noteFitsCard

/-- THE TIED CARD OF 'heraldlaw3.NoteGreatest'. -/
def noteGreatestCard : Claim7 := { stood := { row := noteGreatestRow, standIns := [], harness := (true, "f05992a950078f5332c36fadb74d8e9e974c16bb9a1c8f6d53886f831c36c292"), looks := true }, kinds := [], alts := [], laidByText := true, laidKinds := [.data, .data, .data, .pinned], laidTests := true, laidLooks := .later }
def NoteGreatestCardSaid : Prop := Claim7.holds Tryz.pinned (.plain (OpenSpec.ofChange noteGreatestSpec)) noteGreatestCard

/-- THE TIED CARD OF 'heraldlaw3.NoteTurned'. -/
def noteTurnedCard : Claim7 := { stood := { row := noteTurnedRow, standIns := [], harness := (true, "f05992a950078f5332c36fadb74d8e9e974c16bb9a1c8f6d53886f831c36c292"), looks := true }, kinds := [], alts := [], laidByText := true, laidKinds := [.data, .data, .data, .pinned], laidTests := true, laidLooks := .later }
def NoteTurnedCardSaid : Prop := Claim7.holds Tryz.pinned (.plain (OpenSpec.ofChange noteTurnedSpec)) noteTurnedCard

/-- THE SECOND FORM's CARD OF 'heraldlaw3.NoteChecks'. -/
def noteChecksUptoCard : Claim7 := { stood := { row := noteChecksUptoRow, standIns := [], harness := (true, "f05992a950078f5332c36fadb74d8e9e974c16bb9a1c8f6d53886f831c36c292"), looks := true }, kinds := [], alts := [], laidByText := true, laidKinds := [.data, .data, .data, .data, .pinned], laidTests := true, laidLooks := .later }
def NoteChecksUptoCardSaid : Prop := Claim7.holds Tryz.pinned (.plain (OpenSpec.upto noteChecksSpec)) noteChecksUptoCard

/-- THE SECOND FORM's CARD OF 'heraldlaw3.NoteEncodes'. -/
def noteEncodesUptoCard : Claim7 := { stood := { row := noteEncodesUptoRow, standIns := [], harness := (true, "f05992a950078f5332c36fadb74d8e9e974c16bb9a1c8f6d53886f831c36c292"), looks := true }, kinds := [], alts := [], laidByText := true, laidKinds := [.data, .data, .data, .data, .pinned], laidTests := true, laidLooks := .later }
def NoteEncodesUptoCardSaid : Prop := Claim7.holds Tryz.pinned (.plain (OpenSpec.upto noteEncodesSpec)) noteEncodesUptoCard

/-- THE SECOND FORM's CARD OF 'heraldlaw3.NoteDecodes'. -/
def noteDecodesUptoCard : Claim7 := { stood := { row := noteDecodesUptoRow, standIns := [], harness := (true, "f05992a950078f5332c36fadb74d8e9e974c16bb9a1c8f6d53886f831c36c292"), looks := true }, kinds := [], alts := [], laidByText := true, laidKinds := [.data, .data, .data, .data, .pinned], laidTests := true, laidLooks := .later }
def NoteDecodesUptoCardSaid : Prop := Claim7.holds Tryz.pinned (.plain (OpenSpec.upto noteDecodesSpec)) noteDecodesUptoCard

/-- THE SECOND FORM's CARD OF 'heraldlaw3.NoteReturns'. -/
def noteReturnsUptoCard : Claim7 := { stood := { row := noteReturnsUptoRow, standIns := [], harness := (true, "f05992a950078f5332c36fadb74d8e9e974c16bb9a1c8f6d53886f831c36c292"), looks := true }, kinds := [], alts := [], laidByText := true, laidKinds := [.data, .data, .data, .pinned], laidTests := true, laidLooks := .later }
def NoteReturnsUptoCardSaid : Prop := Claim7.holds Tryz.pinned (.plain (OpenSpec.upto noteReturnsSpec)) noteReturnsUptoCard

/-- THE SECOND FORM's CARD OF 'heraldlaw3.NoteSays'. -/
def noteSaysUptoCard : Claim7 := { stood := { row := noteSaysUptoRow, standIns := [], harness := (true, "f05992a950078f5332c36fadb74d8e9e974c16bb9a1c8f6d53886f831c36c292"), looks := true }, kinds := [], alts := [], laidByText := true, laidKinds := [.data, .data, .data, .pinned], laidTests := true, laidLooks := .later }
def NoteSaysUptoCardSaid : Prop := Claim7.holds Tryz.pinned (.plain (OpenSpec.upto noteSaysSpec)) noteSaysUptoCard

/-- THE SECOND FORM's CARD OF 'heraldlaw3.NoteEndsItself'. -/
def noteEndsItselfUptoCard : Claim7 := { stood := { row := noteEndsItselfUptoRow, standIns := [], harness := (true, "f05992a950078f5332c36fadb74d8e9e974c16bb9a1c8f6d53886f831c36c292"), looks := true }, kinds := [], alts := [], laidByText := true, laidKinds := [.data, .data, .data, .pinned], laidTests := true, laidLooks := .later }
def NoteEndsItselfUptoCardSaid : Prop := Claim7.holds Tryz.pinned (.plain (OpenSpec.upto noteEndsItselfSpec)) noteEndsItselfUptoCard

/-- THE SECOND FORM's CARD OF 'heraldlaw3.NoteTellsApart'. -/
def noteTellsApartUptoCard : Claim7 := { stood := { row := noteTellsApartUptoRow, standIns := [], harness := (true, "f05992a950078f5332c36fadb74d8e9e974c16bb9a1c8f6d53886f831c36c292"), looks := true }, kinds := [], alts := [], laidByText := true, laidKinds := [.data, .data, .data, .pinned], laidTests := true, laidLooks := .later }
def NoteTellsApartUptoCardSaid : Prop := Claim7.holds Tryz.pinned (.plain (OpenSpec.upto noteTellsApartSpec)) noteTellsApartUptoCard

/-- THE SECOND FORM's CARD OF 'heraldlaw3.NoteEntries'. -/
def noteEntriesUptoCard : Claim7 := { stood := { row := noteEntriesUptoRow, standIns := [], harness := (true, "f05992a950078f5332c36fadb74d8e9e974c16bb9a1c8f6d53886f831c36c292"), looks := true }, kinds := [], alts := [], laidByText := true, laidKinds := [.data, .data, .data, .pinned], laidTests := true, laidLooks := .later }
def NoteEntriesUptoCardSaid : Prop := Claim7.holds Tryz.pinned (.plain (OpenSpec.upto noteEntriesSpec)) noteEntriesUptoCard

/-- THE SECOND FORM's CARD OF 'heraldlaw3.NoteMessages'. -/
def noteMessagesUptoCard : Claim7 := { stood := { row := noteMessagesUptoRow, standIns := [], harness := (true, "f05992a950078f5332c36fadb74d8e9e974c16bb9a1c8f6d53886f831c36c292"), looks := true }, kinds := [], alts := [], laidByText := true, laidKinds := [.data, .data, .data, .data, .pinned], laidTests := true, laidLooks := .later }
def NoteMessagesUptoCardSaid : Prop := Claim7.holds Tryz.pinned (.plain (OpenSpec.upto noteMessagesSpec)) noteMessagesUptoCard

/-- THE SECOND FORM's CARD OF 'heraldlaw3.NoteFits'. -/
def noteFitsUptoCard : Claim7 := { stood := { row := noteFitsUptoRow, standIns := [], harness := (true, "f05992a950078f5332c36fadb74d8e9e974c16bb9a1c8f6d53886f831c36c292"), looks := true }, kinds := [], alts := [], laidByText := true, laidKinds := [.data, .data, .data, .pinned], laidTests := true, laidLooks := .later }
def NoteFitsUptoCardSaid : Prop := Claim7.holds Tryz.pinned (.plain (OpenSpec.upto noteFitsSpec)) noteFitsUptoCard

/-- THE SECOND FORM's CARD OF 'heraldlaw3.NoteGreatest'. -/
def noteGreatestUptoCard : Claim7 := { stood := { row := noteGreatestUptoRow, standIns := [], harness := (true, "f05992a950078f5332c36fadb74d8e9e974c16bb9a1c8f6d53886f831c36c292"), looks := true }, kinds := [], alts := [], laidByText := true, laidKinds := [.data, .data, .data, .pinned], laidTests := true, laidLooks := .later }
def NoteGreatestUptoCardSaid : Prop := Claim7.holds Tryz.pinned (.plain (OpenSpec.upto noteGreatestSpec)) noteGreatestUptoCard

/-- THE SECOND FORM's CARD OF 'heraldlaw3.NoteTurned'. -/
def noteTurnedUptoCard : Claim7 := { stood := { row := noteTurnedUptoRow, standIns := [], harness := (true, "f05992a950078f5332c36fadb74d8e9e974c16bb9a1c8f6d53886f831c36c292"), looks := true }, kinds := [], alts := [], laidByText := true, laidKinds := [.data, .data, .data, .pinned], laidTests := true, laidLooks := .later }
def NoteTurnedUptoCardSaid : Prop := Claim7.holds Tryz.pinned (.plain (OpenSpec.upto noteTurnedSpec)) noteTurnedUptoCard
end Rows
end Go.Proofs.YtmneemhplffemaaGreatDoorRR
