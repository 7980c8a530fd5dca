/-
  DERIVED. GIVEN WITH THE SEED: THE CARDS: each row of YtmngkcpobmhnoaaGreatDoorRows.lean that lists a variable, with what it lists TIED to the program's text (the seventh form; the later family's looks); each row that meets fmt, with fmt's text TOLD by the authors' own Lean function (tested against real Go, not proved from fmt's source: count such statements apart). THE CARD IS WHAT COUNTS. Prove the row's statement (the work); the ties are given (YtmngkcpobmhnoaaGreatDoorTie.lean); close each card by the builder's one call (the guide's Derived/Test/ToyasCard.lean, 'card_holds'). Laid BY PROGRAM, IN A SANDBOX (cutbox-door.mjs). By AI agents, Wed Nov 11 2026. No macro, syntax, notation, axiom, sorry.
-/
import Derived.Test.YtmngkcpobmhnoaaGreatDoorRows
import GoSem.ClaimSeven
namespace Go.Proofs.YtmngkcpobmhnoaaGreatDoor
namespace Rows

/-- THE TIED CARD OF 'burinlaw07.LexWords'. -/
def lexWordsCard : Claim7 := { stood := { row := lexWordsRow, standIns := [], harness := (true, "b81c85ffa4d4267bae932083df1580633bbb73f47e3e83383a624b467f4b02f3"), looks := true }, kinds := [], alts := [], laidByText := true, laidKinds := [.data, .data, .data, .data, .sentinel, .sentinel, .data, .pinned, .pinned], laidTests := true, laidLooks := .later }
def LexWordsCardSaid : Prop := Claim7.holds Tryz.pinned (.plain (OpenSpec.ofChange lexWordsSpec)) lexWordsCard

/-- THE TIED CARD OF 'burinlaw07.LexLines'. -/
def lexLinesCard : Claim7 := { stood := { row := lexLinesRow, standIns := [], harness := (true, "b81c85ffa4d4267bae932083df1580633bbb73f47e3e83383a624b467f4b02f3"), looks := true }, kinds := [], alts := [], laidByText := true, laidKinds := [.data, .data, .data, .data, .sentinel, .sentinel, .data, .pinned, .pinned], laidTests := true, laidLooks := .later }
def LexLinesCardSaid : Prop := Claim7.holds Tryz.pinned (.plain (OpenSpec.ofChange lexLinesSpec)) lexLinesCard

/-- THE TIED CARD OF 'burinlaw05.CondEvals'. -/
def condEvalsCard : Claim7 := { stood := { row := condEvalsRow, standIns := [], harness := (true, "b81c85ffa4d4267bae932083df1580633bbb73f47e3e83383a624b467f4b02f3"), looks := true }, kinds := [], alts := [], laidByText := true, laidKinds := [.data, .data, .data, .data, .sentinel, .sentinel, .data, .pinned, .pinned], laidTests := true, laidLooks := .later }
def CondEvalsCardSaid : Prop := Claim7.holds Tryz.pinned (.plain (OpenSpec.ofChange condEvalsSpec)) condEvalsCard

/-- THE TIED CARD OF 'burinlaw05.CondLines'. -/
def condLinesCard : Claim7 := { stood := { row := condLinesRow, standIns := [], harness := (true, "b81c85ffa4d4267bae932083df1580633bbb73f47e3e83383a624b467f4b02f3"), looks := true }, kinds := [], alts := [], laidByText := true, laidKinds := [.data, .data, .data, .data, .sentinel, .sentinel, .data, .pinned, .pinned], laidTests := true, laidLooks := .later }
def CondLinesCardSaid : Prop := Claim7.holds Tryz.pinned (.plain (OpenSpec.ofChange condLinesSpec)) condLinesCard

/-- THE TIED CARD OF 'burinlaw05.CondBrackets'. -/
def condBracketsCard : Claim7 := { stood := { row := condBracketsRow, standIns := [], harness := (true, "b81c85ffa4d4267bae932083df1580633bbb73f47e3e83383a624b467f4b02f3"), looks := true }, kinds := [], alts := [], laidByText := true, laidKinds := [.data, .data, .data, .data, .sentinel, .sentinel, .data, .pinned, .pinned], laidTests := true, laidLooks := .later }
def CondBracketsCardSaid : Prop := Claim7.holds Tryz.pinned (.plain (OpenSpec.ofChange condBracketsSpec)) condBracketsCard

/-- THE TIED CARD OF 'burinlaw05.CondSmall'. -/
def condSmallCard : Claim7 := { stood := { row := condSmallRow, standIns := [], harness := (true, "b81c85ffa4d4267bae932083df1580633bbb73f47e3e83383a624b467f4b02f3"), looks := true }, kinds := [], alts := [], laidByText := true, laidKinds := [.data, .data, .data, .data, .sentinel, .sentinel, .data, .pinned, .pinned], laidTests := true, laidLooks := .later }
def CondSmallCardSaid : Prop := Claim7.holds Tryz.pinned (.plain (OpenSpec.ofChange condSmallSpec)) condSmallCard

/-- THE TIED CARD OF 'burinlaw05.CondSame'. -/
def condSameCard : Claim7 := { stood := { row := condSameRow, standIns := [], harness := (true, "b81c85ffa4d4267bae932083df1580633bbb73f47e3e83383a624b467f4b02f3"), looks := true }, kinds := [], alts := [], laidByText := true, laidKinds := [.data, .data, .data, .data, .sentinel, .sentinel, .data, .pinned, .pinned], laidTests := true, laidLooks := .later }
def CondSameCardSaid : Prop := Claim7.holds Tryz.pinned (.plain (OpenSpec.ofChange condSameSpec)) condSameCard

/-- THE TIED CARD OF 'burinlaw05.CondNots'. -/
def condNotsCard : Claim7 := { stood := { row := condNotsRow, standIns := [], harness := (true, "b81c85ffa4d4267bae932083df1580633bbb73f47e3e83383a624b467f4b02f3"), looks := true }, kinds := [], alts := [], laidByText := true, laidKinds := [.data, .data, .data, .data, .sentinel, .sentinel, .data, .pinned, .pinned], laidTests := true, laidLooks := .later }
def CondNotsCardSaid : Prop := Claim7.holds Tryz.pinned (.plain (OpenSpec.ofChange condNotsSpec)) condNotsCard

/-- THE TIED CARD OF 'burinlaw07.LexParts'. -/
def lexPartsCard : Claim7 := { stood := { row := lexPartsRow, standIns := [], harness := (true, "b81c85ffa4d4267bae932083df1580633bbb73f47e3e83383a624b467f4b02f3"), looks := true }, kinds := [], alts := [], laidByText := true, laidKinds := [.data, .data, .data, .data, .sentinel, .sentinel, .data, .pinned, .pinned], laidTests := true, laidLooks := .later }
def LexPartsCardSaid : Prop := Claim7.holds Tryz.pinned (.plain (OpenSpec.ofChange lexPartsSpec)) lexPartsCard

/-- THE TIED CARD OF 'burinlaw07.LexShows'. -/
def lexShowsCard : Claim7 := { stood := { row := lexShowsRow, standIns := [], harness := (true, "b81c85ffa4d4267bae932083df1580633bbb73f47e3e83383a624b467f4b02f3"), looks := true }, kinds := [], alts := [], laidByText := true, laidKinds := [.data, .data, .data, .data, .sentinel, .sentinel, .data, .pinned, .pinned], laidTests := true, laidLooks := .later }
def LexShowsCardSaid : Prop := Claim7.holds Tryz.pinned (.plain (OpenSpec.ofChange lexShowsSpec)) lexShowsCard

/-- THE TIED CARD OF 'burinlaw07.LexBack'. -/
def lexBackCard : Claim7 := { stood := { row := lexBackRow, standIns := [], harness := (true, "b81c85ffa4d4267bae932083df1580633bbb73f47e3e83383a624b467f4b02f3"), looks := true }, kinds := [], alts := [], laidByText := true, laidKinds := [.data, .data, .data, .data, .sentinel, .sentinel, .data, .pinned, .pinned], laidTests := true, laidLooks := .later }
def LexBackCardSaid : Prop := Claim7.holds Tryz.pinned (.plain (OpenSpec.ofChange lexBackSpec)) lexBackCard

/-- THE SECOND FORM's CARD OF 'burinlaw07.LexWords'. -/
def lexWordsUptoCard : Claim7 := { stood := { row := lexWordsUptoRow, standIns := [], harness := (true, "b81c85ffa4d4267bae932083df1580633bbb73f47e3e83383a624b467f4b02f3"), looks := true }, kinds := [], alts := [], laidByText := true, laidKinds := [.data, .data, .data, .data, .sentinel, .sentinel, .data, .pinned, .pinned], laidTests := true, laidLooks := .later }
def LexWordsUptoCardSaid : Prop := Claim7.holds Tryz.pinned (.plain (OpenSpec.upto lexWordsSpec)) lexWordsUptoCard

/-- THE SECOND FORM's CARD OF 'burinlaw07.LexLines'. -/
def lexLinesUptoCard : Claim7 := { stood := { row := lexLinesUptoRow, standIns := [], harness := (true, "b81c85ffa4d4267bae932083df1580633bbb73f47e3e83383a624b467f4b02f3"), looks := true }, kinds := [], alts := [], laidByText := true, laidKinds := [.data, .data, .data, .data, .sentinel, .sentinel, .data, .pinned, .pinned], laidTests := true, laidLooks := .later }
def LexLinesUptoCardSaid : Prop := Claim7.holds Tryz.pinned (.plain (OpenSpec.upto lexLinesSpec)) lexLinesUptoCard

/-- THE SECOND FORM's CARD OF 'burinlaw05.CondEvals'. -/
def condEvalsUptoCard : Claim7 := { stood := { row := condEvalsUptoRow, standIns := [], harness := (true, "b81c85ffa4d4267bae932083df1580633bbb73f47e3e83383a624b467f4b02f3"), looks := true }, kinds := [], alts := [], laidByText := true, laidKinds := [.data, .data, .data, .data, .sentinel, .sentinel, .data, .pinned, .pinned], laidTests := true, laidLooks := .later }
def CondEvalsUptoCardSaid : Prop := Claim7.holds Tryz.pinned (.plain (OpenSpec.upto condEvalsSpec)) condEvalsUptoCard

/-- THE SECOND FORM's CARD OF 'burinlaw05.CondLines'. -/
def condLinesUptoCard : Claim7 := { stood := { row := condLinesUptoRow, standIns := [], harness := (true, "b81c85ffa4d4267bae932083df1580633bbb73f47e3e83383a624b467f4b02f3"), looks := true }, kinds := [], alts := [], laidByText := true, laidKinds := [.data, .data, .data, .data, .sentinel, .sentinel, .data, .pinned, .pinned], laidTests := true, laidLooks := .later }
def CondLinesUptoCardSaid : Prop := Claim7.holds Tryz.pinned (.plain (OpenSpec.upto condLinesSpec)) condLinesUptoCard

/-- THE SECOND FORM's CARD OF 'burinlaw05.CondBrackets'. -/
def condBracketsUptoCard : Claim7 := { stood := { row := condBracketsUptoRow, standIns := [], harness := (true, "b81c85ffa4d4267bae932083df1580633bbb73f47e3e83383a624b467f4b02f3"), looks := true }, kinds := [], alts := [], laidByText := true, laidKinds := [.data, .data, .data, .data, .sentinel, .sentinel, .data, .pinned, .pinned], laidTests := true, laidLooks := .later }
def CondBracketsUptoCardSaid : Prop := Claim7.holds Tryz.pinned (.plain (OpenSpec.upto condBracketsSpec)) condBracketsUptoCard

/-- THE SECOND FORM's CARD OF 'burinlaw05.CondSmall'. -/
def condSmallUptoCard : Claim7 := { stood := { row := condSmallUptoRow, standIns := [], harness := (true, "b81c85ffa4d4267bae932083df1580633bbb73f47e3e83383a624b467f4b02f3"), looks := true }, kinds := [], alts := [], laidByText := true, laidKinds := [.data, .data, .data, .data, .sentinel, .sentinel, .data, .pinned, .pinned], laidTests := true, laidLooks := .later }
def CondSmallUptoCardSaid : Prop := Claim7.holds Tryz.pinned (.plain (OpenSpec.upto condSmallSpec)) condSmallUptoCard

/-- THE SECOND FORM's CARD OF 'burinlaw05.CondSame'. -/
def condSameUptoCard : Claim7 := { stood := { row := condSameUptoRow, standIns := [], harness := (true, "b81c85ffa4d4267bae932083df1580633bbb73f47e3e83383a624b467f4b02f3"), looks := true }, kinds := [], alts := [], laidByText := true, laidKinds := [.data, .data, .data, .data, .sentinel, .sentinel, .data, .pinned, .pinned], laidTests := true, laidLooks := .later }
def CondSameUptoCardSaid : Prop := Claim7.holds Tryz.pinned (.plain (OpenSpec.upto condSameSpec)) condSameUptoCard

/-- THE SECOND FORM's CARD OF 'burinlaw05.CondNots'. -/
def condNotsUptoCard : Claim7 := { stood := { row := condNotsUptoRow, standIns := [], harness := (true, "b81c85ffa4d4267bae932083df1580633bbb73f47e3e83383a624b467f4b02f3"), looks := true }, kinds := [], alts := [], laidByText := true, laidKinds := [.data, .data, .data, .data, .sentinel, .sentinel, .data, .pinned, .pinned], laidTests := true, laidLooks := .later }
def CondNotsUptoCardSaid : Prop := Claim7.holds Tryz.pinned (.plain (OpenSpec.upto condNotsSpec)) condNotsUptoCard

/-- THE SECOND FORM's CARD OF 'burinlaw07.LexParts'. -/
def lexPartsUptoCard : Claim7 := { stood := { row := lexPartsUptoRow, standIns := [], harness := (true, "b81c85ffa4d4267bae932083df1580633bbb73f47e3e83383a624b467f4b02f3"), looks := true }, kinds := [], alts := [], laidByText := true, laidKinds := [.data, .data, .data, .data, .sentinel, .sentinel, .data, .pinned, .pinned], laidTests := true, laidLooks := .later }
def LexPartsUptoCardSaid : Prop := Claim7.holds Tryz.pinned (.plain (OpenSpec.upto lexPartsSpec)) lexPartsUptoCard

/-- THE SECOND FORM's CARD OF 'burinlaw07.LexShows'. -/
def lexShowsUptoCard : Claim7 := { stood := { row := lexShowsUptoRow, standIns := [], harness := (true, "b81c85ffa4d4267bae932083df1580633bbb73f47e3e83383a624b467f4b02f3"), looks := true }, kinds := [], alts := [], laidByText := true, laidKinds := [.data, .data, .data, .data, .sentinel, .sentinel, .data, .pinned, .pinned], laidTests := true, laidLooks := .later }
def LexShowsUptoCardSaid : Prop := Claim7.holds Tryz.pinned (.plain (OpenSpec.upto lexShowsSpec)) lexShowsUptoCard

/-- THE SECOND FORM's CARD OF 'burinlaw07.LexBack'. -/
def lexBackUptoCard : Claim7 := { stood := { row := lexBackUptoRow, standIns := [], harness := (true, "b81c85ffa4d4267bae932083df1580633bbb73f47e3e83383a624b467f4b02f3"), looks := true }, kinds := [], alts := [], laidByText := true, laidKinds := [.data, .data, .data, .data, .sentinel, .sentinel, .data, .pinned, .pinned], laidTests := true, laidLooks := .later }
def LexBackUptoCardSaid : Prop := Claim7.holds Tryz.pinned (.plain (OpenSpec.upto lexBackSpec)) lexBackUptoCard
end Rows
end Go.Proofs.YtmngkcpobmhnoaaGreatDoor
