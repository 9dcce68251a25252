/-
  DERIVED. GIVEN WITH THE SEED: THE CARDS: each row of YtfdinkofcjcahaaDoorRows.lean that lists a variable, with what it lists TIED to the program's text (the seventh form; the later family's looks); each row that meets fmt, with fmt's text TOLD by the authors' own Lean function (tested against real Go, not proved from fmt's source: count such statements apart). THE CARD IS WHAT COUNTS. Prove the row's statement (the work); the ties are given (YtfdinkofcjcahaaDoorTie.lean); close each card by the builder's one call (the guide's Derived/Test/ToyasCard.lean, 'card_holds'). Laid BY PROGRAM, IN A SANDBOX (cutbox-door.mjs). By AI agents, Wed Nov 11 2026. No macro, syntax, notation, axiom, sorry.
-/
import Derived.Test.YtfdinkofcjcahaaDoorRows
import GoSem.ClaimSeven
namespace Go.Proofs.YtfdinkofcjcahaaDoor
namespace Rows

/-- THE TIED CARD OF 'heraldlaw1.PlaceCovers'. -/
def placeCoversCard : Claim7 := { stood := { row := placeCoversRow, standIns := [], harness := (true, "62a1f4b17a67aef789f0a764aefb0758e987cfe6eeee052d0ee15269500d9ea3"), looks := false }, kinds := [], alts := [], laidByText := true, laidKinds := [.data, .data, .pinned], laidTests := true, laidLooks := .later }
def PlaceCoversCardSaid : Prop := Claim7.holds Tryd.pinned (.plain (OpenSpec.ofChange placeCoversSpec)) placeCoversCard

/-- THE TIED CARD OF 'heraldlaw1.PlaceNames'. -/
def placeNamesCard : Claim7 := { stood := { row := placeNamesRow, standIns := [], harness := (true, "62a1f4b17a67aef789f0a764aefb0758e987cfe6eeee052d0ee15269500d9ea3"), looks := false }, kinds := [], alts := [], laidByText := true, laidKinds := [.data, .data, .pinned], laidTests := true, laidLooks := .later }
def PlaceNamesCardSaid : Prop := Claim7.holds Tryd.pinned (.plain (OpenSpec.ofChange placeNamesSpec)) placeNamesCard

/-- THE TIED CARD OF 'heraldlaw1.PlaceParses'. -/
def placeParsesCard : Claim7 := { stood := { row := placeParsesRow, standIns := [], harness := (true, "62a1f4b17a67aef789f0a764aefb0758e987cfe6eeee052d0ee15269500d9ea3"), looks := false }, kinds := [], alts := [], laidByText := true, laidKinds := [.data, .data, .data, .data, .data, .pinned], laidTests := true, laidLooks := .later }
def PlaceParsesCardSaid : Prop := Claim7.holds Tryd.pinned (.plain (OpenSpec.ofChange placeParsesSpec)) placeParsesCard

/-- THE TIED CARD OF 'heraldlaw1.PlaceCleans'. -/
def placeCleansCard : Claim7 := { stood := { row := placeCleansRow, standIns := [], harness := (true, "62a1f4b17a67aef789f0a764aefb0758e987cfe6eeee052d0ee15269500d9ea3"), looks := false }, kinds := [], alts := [], laidByText := true, laidKinds := [.data, .data, .data, .data, .data, .pinned], laidTests := true, laidLooks := .later }
def PlaceCleansCardSaid : Prop := Claim7.holds Tryd.pinned (.plain (OpenSpec.ofChange placeCleansSpec)) placeCleansCard

/-- THE TIED CARD OF 'heraldlaw1.PlaceCounts'. -/
def placeCountsCard : Claim7 := { stood := { row := placeCountsRow, standIns := [], harness := (true, "62a1f4b17a67aef789f0a764aefb0758e987cfe6eeee052d0ee15269500d9ea3"), looks := false }, kinds := [], alts := [], laidByText := true, laidKinds := [.data, .data, .data, .data, .data, .pinned], laidTests := true, laidLooks := .later }
def PlaceCountsCardSaid : Prop := Claim7.holds Tryd.pinned (.plain (OpenSpec.ofChange placeCountsSpec)) placeCountsCard

/-- THE TIED CARD OF 'heraldlaw1.PlaceLoose'. -/
def placeLooseCard : Claim7 := { stood := { row := placeLooseRow, standIns := [], harness := (true, "62a1f4b17a67aef789f0a764aefb0758e987cfe6eeee052d0ee15269500d9ea3"), looks := false }, kinds := [], alts := [], laidByText := true, laidKinds := [.data, .data, .data, .data, .data, .pinned], laidTests := true, laidLooks := .later }
def PlaceLooseCardSaid : Prop := Claim7.holds Tryd.pinned (.plain (OpenSpec.ofChange placeLooseSpec)) placeLooseCard

/-- THE TIED CARD OF 'heraldlaw1.PlaceJoins'. -/
def placeJoinsCard : Claim7 := { stood := { row := placeJoinsRow, standIns := [], harness := (true, "62a1f4b17a67aef789f0a764aefb0758e987cfe6eeee052d0ee15269500d9ea3"), looks := false }, kinds := [], alts := [], laidByText := true, laidKinds := [.data, .data, .data, .data, .data, .pinned], laidTests := true, laidLooks := .later }
def PlaceJoinsCardSaid : Prop := Claim7.holds Tryd.pinned (.plain (OpenSpec.ofChange placeJoinsSpec)) placeJoinsCard

/-- THE TIED CARD OF 'heraldlaw1.PlaceOwn'. -/
def placeOwnCard : Claim7 := { stood := { row := placeOwnRow, standIns := [], harness := (true, "62a1f4b17a67aef789f0a764aefb0758e987cfe6eeee052d0ee15269500d9ea3"), looks := false }, kinds := [], alts := [], laidByText := true, laidKinds := [.data, .data, .data, .data, .data, .pinned], laidTests := true, laidLooks := .later }
def PlaceOwnCardSaid : Prop := Claim7.holds Tryd.pinned (.plain (OpenSpec.ofChange placeOwnSpec)) placeOwnCard

/-- THE TIED CARD OF 'heraldlaw1.PlaceParents'. -/
def placeParentsCard : Claim7 := { stood := { row := placeParentsRow, standIns := [], harness := (true, "62a1f4b17a67aef789f0a764aefb0758e987cfe6eeee052d0ee15269500d9ea3"), looks := false }, kinds := [], alts := [], laidByText := true, laidKinds := [.data, .data, .data, .data, .data, .pinned], laidTests := true, laidLooks := .later }
def PlaceParentsCardSaid : Prop := Claim7.holds Tryd.pinned (.plain (OpenSpec.ofChange placeParentsSpec)) placeParentsCard

/-- THE TIED CARD OF 'heraldlaw1.PlaceDigits'. -/
def placeDigitsCard : Claim7 := { stood := { row := placeDigitsRow, standIns := [], harness := (true, "62a1f4b17a67aef789f0a764aefb0758e987cfe6eeee052d0ee15269500d9ea3"), looks := false }, kinds := [], alts := [], laidByText := true, laidKinds := [.data, .data, .data, .data, .data, .pinned], laidTests := true, laidLooks := .later }
def PlaceDigitsCardSaid : Prop := Claim7.holds Tryd.pinned (.plain (OpenSpec.ofChange placeDigitsSpec)) placeDigitsCard

/-- THE TIED CARD OF 'heraldlaw1.PlaceKinds'. -/
def placeKindsCard : Claim7 := { stood := { row := placeKindsRow, standIns := [], harness := (true, "62a1f4b17a67aef789f0a764aefb0758e987cfe6eeee052d0ee15269500d9ea3"), looks := false }, kinds := [], alts := [], laidByText := true, laidKinds := [.data, .data, .data, .data, .data, .pinned], laidTests := true, laidLooks := .later }
def PlaceKindsCardSaid : Prop := Claim7.holds Tryd.pinned (.plain (OpenSpec.ofChange placeKindsSpec)) placeKindsCard

/-- THE TIED CARD OF 'heraldlaw1.PlaceBack'. -/
def placeBackCard : Claim7 := { stood := { row := placeBackRow, standIns := [], harness := (true, "62a1f4b17a67aef789f0a764aefb0758e987cfe6eeee052d0ee15269500d9ea3"), looks := false }, kinds := [], alts := [], laidByText := true, laidKinds := [.data, .data, .data, .data, .data, .pinned], laidTests := true, laidLooks := .later }
def PlaceBackCardSaid : Prop := Claim7.holds Tryd.pinned (.plain (OpenSpec.ofChange placeBackSpec)) placeBackCard

/-- THE TIED CARD OF 'heraldlaw1.PlaceTogether'. -/
def placeTogetherCard : Claim7 := { stood := { row := placeTogetherRow, standIns := [], harness := (true, "62a1f4b17a67aef789f0a764aefb0758e987cfe6eeee052d0ee15269500d9ea3"), looks := false }, kinds := [], alts := [], laidByText := true, laidKinds := [.data, .data, .data, .data, .data, .pinned], laidTests := true, laidLooks := .later }
def PlaceTogetherCardSaid : Prop := Claim7.holds Tryd.pinned (.plain (OpenSpec.ofChange placeTogetherSpec)) placeTogetherCard

/-- THE SECOND FORM's CARD OF 'heraldlaw1.PlaceCovers'. -/
def placeCoversUptoCard : Claim7 := { stood := { row := placeCoversUptoRow, standIns := [], harness := (true, "62a1f4b17a67aef789f0a764aefb0758e987cfe6eeee052d0ee15269500d9ea3"), looks := false }, kinds := [], alts := [], laidByText := true, laidKinds := [.data, .data, .pinned], laidTests := true, laidLooks := .later }
def PlaceCoversUptoCardSaid : Prop := Claim7.holds Tryd.pinned (.plain (OpenSpec.upto placeCoversSpec)) placeCoversUptoCard

/-- THE SECOND FORM's CARD OF 'heraldlaw1.PlaceNames'. -/
def placeNamesUptoCard : Claim7 := { stood := { row := placeNamesUptoRow, standIns := [], harness := (true, "62a1f4b17a67aef789f0a764aefb0758e987cfe6eeee052d0ee15269500d9ea3"), looks := false }, kinds := [], alts := [], laidByText := true, laidKinds := [.data, .data, .pinned], laidTests := true, laidLooks := .later }
def PlaceNamesUptoCardSaid : Prop := Claim7.holds Tryd.pinned (.plain (OpenSpec.upto placeNamesSpec)) placeNamesUptoCard

/-- THE SECOND FORM's CARD OF 'heraldlaw1.PlaceParses'. -/
def placeParsesUptoCard : Claim7 := { stood := { row := placeParsesUptoRow, standIns := [], harness := (true, "62a1f4b17a67aef789f0a764aefb0758e987cfe6eeee052d0ee15269500d9ea3"), looks := false }, kinds := [], alts := [], laidByText := true, laidKinds := [.data, .data, .data, .data, .data, .pinned], laidTests := true, laidLooks := .later }
def PlaceParsesUptoCardSaid : Prop := Claim7.holds Tryd.pinned (.plain (OpenSpec.upto placeParsesSpec)) placeParsesUptoCard

/-- THE SECOND FORM's CARD OF 'heraldlaw1.PlaceCleans'. -/
def placeCleansUptoCard : Claim7 := { stood := { row := placeCleansUptoRow, standIns := [], harness := (true, "62a1f4b17a67aef789f0a764aefb0758e987cfe6eeee052d0ee15269500d9ea3"), looks := false }, kinds := [], alts := [], laidByText := true, laidKinds := [.data, .data, .data, .data, .data, .pinned], laidTests := true, laidLooks := .later }
def PlaceCleansUptoCardSaid : Prop := Claim7.holds Tryd.pinned (.plain (OpenSpec.upto placeCleansSpec)) placeCleansUptoCard

/-- THE SECOND FORM's CARD OF 'heraldlaw1.PlaceCounts'. -/
def placeCountsUptoCard : Claim7 := { stood := { row := placeCountsUptoRow, standIns := [], harness := (true, "62a1f4b17a67aef789f0a764aefb0758e987cfe6eeee052d0ee15269500d9ea3"), looks := false }, kinds := [], alts := [], laidByText := true, laidKinds := [.data, .data, .data, .data, .data, .pinned], laidTests := true, laidLooks := .later }
def PlaceCountsUptoCardSaid : Prop := Claim7.holds Tryd.pinned (.plain (OpenSpec.upto placeCountsSpec)) placeCountsUptoCard

/-- THE SECOND FORM's CARD OF 'heraldlaw1.PlaceLoose'. -/
def placeLooseUptoCard : Claim7 := { stood := { row := placeLooseUptoRow, standIns := [], harness := (true, "62a1f4b17a67aef789f0a764aefb0758e987cfe6eeee052d0ee15269500d9ea3"), looks := false }, kinds := [], alts := [], laidByText := true, laidKinds := [.data, .data, .data, .data, .data, .pinned], laidTests := true, laidLooks := .later }
def PlaceLooseUptoCardSaid : Prop := Claim7.holds Tryd.pinned (.plain (OpenSpec.upto placeLooseSpec)) placeLooseUptoCard

/-- THE SECOND FORM's CARD OF 'heraldlaw1.PlaceJoins'. -/
def placeJoinsUptoCard : Claim7 := { stood := { row := placeJoinsUptoRow, standIns := [], harness := (true, "62a1f4b17a67aef789f0a764aefb0758e987cfe6eeee052d0ee15269500d9ea3"), looks := false }, kinds := [], alts := [], laidByText := true, laidKinds := [.data, .data, .data, .data, .data, .pinned], laidTests := true, laidLooks := .later }
def PlaceJoinsUptoCardSaid : Prop := Claim7.holds Tryd.pinned (.plain (OpenSpec.upto placeJoinsSpec)) placeJoinsUptoCard

/-- THE SECOND FORM's CARD OF 'heraldlaw1.PlaceOwn'. -/
def placeOwnUptoCard : Claim7 := { stood := { row := placeOwnUptoRow, standIns := [], harness := (true, "62a1f4b17a67aef789f0a764aefb0758e987cfe6eeee052d0ee15269500d9ea3"), looks := false }, kinds := [], alts := [], laidByText := true, laidKinds := [.data, .data, .data, .data, .data, .pinned], laidTests := true, laidLooks := .later }
def PlaceOwnUptoCardSaid : Prop := Claim7.holds Tryd.pinned (.plain (OpenSpec.upto placeOwnSpec)) placeOwnUptoCard

/-- THE SECOND FORM's CARD OF 'heraldlaw1.PlaceParents'. -/
def placeParentsUptoCard : Claim7 := { stood := { row := placeParentsUptoRow, standIns := [], harness := (true, "62a1f4b17a67aef789f0a764aefb0758e987cfe6eeee052d0ee15269500d9ea3"), looks := false }, kinds := [], alts := [], laidByText := true, laidKinds := [.data, .data, .data, .data, .data, .pinned], laidTests := true, laidLooks := .later }
def PlaceParentsUptoCardSaid : Prop := Claim7.holds Tryd.pinned (.plain (OpenSpec.upto placeParentsSpec)) placeParentsUptoCard

/-- THE SECOND FORM's CARD OF 'heraldlaw1.PlaceDigits'. -/
def placeDigitsUptoCard : Claim7 := { stood := { row := placeDigitsUptoRow, standIns := [], harness := (true, "62a1f4b17a67aef789f0a764aefb0758e987cfe6eeee052d0ee15269500d9ea3"), looks := false }, kinds := [], alts := [], laidByText := true, laidKinds := [.data, .data, .data, .data, .data, .pinned], laidTests := true, laidLooks := .later }
def PlaceDigitsUptoCardSaid : Prop := Claim7.holds Tryd.pinned (.plain (OpenSpec.upto placeDigitsSpec)) placeDigitsUptoCard

/-- THE SECOND FORM's CARD OF 'heraldlaw1.PlaceKinds'. -/
def placeKindsUptoCard : Claim7 := { stood := { row := placeKindsUptoRow, standIns := [], harness := (true, "62a1f4b17a67aef789f0a764aefb0758e987cfe6eeee052d0ee15269500d9ea3"), looks := false }, kinds := [], alts := [], laidByText := true, laidKinds := [.data, .data, .data, .data, .data, .pinned], laidTests := true, laidLooks := .later }
def PlaceKindsUptoCardSaid : Prop := Claim7.holds Tryd.pinned (.plain (OpenSpec.upto placeKindsSpec)) placeKindsUptoCard

/-- THE SECOND FORM's CARD OF 'heraldlaw1.PlaceBack'. -/
def placeBackUptoCard : Claim7 := { stood := { row := placeBackUptoRow, standIns := [], harness := (true, "62a1f4b17a67aef789f0a764aefb0758e987cfe6eeee052d0ee15269500d9ea3"), looks := false }, kinds := [], alts := [], laidByText := true, laidKinds := [.data, .data, .data, .data, .data, .pinned], laidTests := true, laidLooks := .later }
def PlaceBackUptoCardSaid : Prop := Claim7.holds Tryd.pinned (.plain (OpenSpec.upto placeBackSpec)) placeBackUptoCard

/-- THE SECOND FORM's CARD OF 'heraldlaw1.PlaceTogether'. -/
def placeTogetherUptoCard : Claim7 := { stood := { row := placeTogetherUptoRow, standIns := [], harness := (true, "62a1f4b17a67aef789f0a764aefb0758e987cfe6eeee052d0ee15269500d9ea3"), looks := false }, kinds := [], alts := [], laidByText := true, laidKinds := [.data, .data, .data, .data, .data, .pinned], laidTests := true, laidLooks := .later }
def PlaceTogetherUptoCardSaid : Prop := Claim7.holds Tryd.pinned (.plain (OpenSpec.upto placeTogetherSpec)) placeTogetherUptoCard
end Rows
end Go.Proofs.YtfdinkofcjcahaaDoor
