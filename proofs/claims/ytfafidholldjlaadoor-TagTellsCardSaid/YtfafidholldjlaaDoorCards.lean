/-
  DERIVED. GIVEN WITH THE SEED: THE CARDS: each row of YtfafidholldjlaaDoorRows.lean that lists a variable, with what it lists TIED to the program's text (the seventh form; the later family's looks); each row that meets fmt, with fmt's text TOLD by the authors' own Lean function (tested against real Go, not proved from fmt's source: count such statements apart). THE CARD IS WHAT COUNTS. Prove the row's statement (the work); the ties are given (YtfafidholldjlaaDoorTie.lean); close each card by the builder's one call (the guide's Derived/Test/ToyasCard.lean, 'card_holds'). Laid BY PROGRAM, IN A SANDBOX (cutbox-door.mjs). By AI agents, Wed Nov 11 2026. No macro, syntax, notation, axiom, sorry.
-/
import Derived.Test.YtfafidholldjlaaDoorRows
import GoSem.ClaimSeven
namespace Go.Proofs.YtfafidholldjlaaDoor
namespace Rows

/-- THE TIED CARD OF 'sigillarylaw01.RoundsTells'. -/
def roundsTellsCard : Claim7 := { stood := { row := roundsTellsRow, standIns := [], harness := (true, "8f1307200286e1d4e4276c03f594d8edc24d045919cb0950615fa5c537e14963"), looks := true }, kinds := [], alts := [], laidByText := true, laidKinds := [.data, .sentinel, .sentinel, .data], laidTests := true, laidLooks := .later }
def RoundsTellsCardSaid : Prop := Claim7.holds Tryd.pinned (.plain (OpenSpec.ofChange roundsTellsSpec)) roundsTellsCard

/-- THE TIED CARD OF 'sigillarylaw01.RoundsParts'. -/
def roundsPartsCard : Claim7 := { stood := { row := roundsPartsRow, standIns := [], harness := (true, "8f1307200286e1d4e4276c03f594d8edc24d045919cb0950615fa5c537e14963"), looks := true }, kinds := [], alts := [], laidByText := true, laidKinds := [.sentinel, .sentinel, .data], laidTests := true, laidLooks := .later }
def RoundsPartsCardSaid : Prop := Claim7.holds Tryd.pinned (.plain (OpenSpec.ofChange roundsPartsSpec)) roundsPartsCard

/-- THE TIED CARD OF 'sigillarylaw01.RoundsWords'. -/
def roundsWordsCard : Claim7 := { stood := { row := roundsWordsRow, standIns := [], harness := (true, "8f1307200286e1d4e4276c03f594d8edc24d045919cb0950615fa5c537e14963"), looks := true }, kinds := [], alts := [], laidByText := true, laidKinds := [.sentinel, .sentinel, .data], laidTests := true, laidLooks := .later }
def RoundsWordsCardSaid : Prop := Claim7.holds Tryd.pinned (.plain (OpenSpec.ofChange roundsWordsSpec)) roundsWordsCard

/-- THE TIED CARD OF 'sigillarylaw01.RoundsBack'. -/
def roundsBackCard : Claim7 := { stood := { row := roundsBackRow, standIns := [], harness := (true, "8f1307200286e1d4e4276c03f594d8edc24d045919cb0950615fa5c537e14963"), looks := true }, kinds := [], alts := [], laidByText := true, laidKinds := [.sentinel, .sentinel, .data], laidTests := true, laidLooks := .later }
def RoundsBackCardSaid : Prop := Claim7.holds Tryd.pinned (.plain (OpenSpec.ofChange roundsBackSpec)) roundsBackCard

/-- THE TIED CARD OF 'sigillarylaw01.RoundsWhole'. -/
def roundsWholeCard : Claim7 := { stood := { row := roundsWholeRow, standIns := [], harness := (true, "8f1307200286e1d4e4276c03f594d8edc24d045919cb0950615fa5c537e14963"), looks := true }, kinds := [], alts := [], laidByText := true, laidKinds := [.sentinel, .sentinel, .data], laidTests := true, laidLooks := .later }
def RoundsWholeCardSaid : Prop := Claim7.holds Tryd.pinned (.plain (OpenSpec.ofChange roundsWholeSpec)) roundsWholeCard

/-- THE TIED CARD OF 'sigillarylaw01.RoundsApart'. -/
def roundsApartCard : Claim7 := { stood := { row := roundsApartRow, standIns := [], harness := (true, "8f1307200286e1d4e4276c03f594d8edc24d045919cb0950615fa5c537e14963"), looks := true }, kinds := [], alts := [], laidByText := true, laidKinds := [.sentinel, .sentinel, .data], laidTests := true, laidLooks := .later }
def RoundsApartCardSaid : Prop := Claim7.holds Tryd.pinned (.plain (OpenSpec.ofChange roundsApartSpec)) roundsApartCard

/-- THE TIED CARD OF 'sigillarylaw02.DigestTells'. -/
def digestTellsCard : Claim7 := { stood := { row := digestTellsRow, standIns := [], harness := (true, "8f1307200286e1d4e4276c03f594d8edc24d045919cb0950615fa5c537e14963"), looks := true }, kinds := [], alts := [], laidByText := true, laidKinds := [.data, .handle, .sentinel, .sentinel, .data], laidTests := true, laidLooks := .later }
def DigestTellsCardSaid : Prop := Claim7.holds Tryd.pinned (.plain (OpenSpec.ofChange digestTellsSpec)) digestTellsCard

/-- THE TIED CARD OF 'sigillarylaw02.DigestPieces'. -/
def digestPiecesCard : Claim7 := { stood := { row := digestPiecesRow, standIns := [], harness := (true, "8f1307200286e1d4e4276c03f594d8edc24d045919cb0950615fa5c537e14963"), looks := true }, kinds := [], alts := [], laidByText := true, laidKinds := [.handle, .sentinel, .sentinel, .data], laidTests := true, laidLooks := .later }
def DigestPiecesCardSaid : Prop := Claim7.holds Tryd.pinned (.plain (OpenSpec.ofChange digestPiecesSpec)) digestPiecesCard

/-- THE TIED CARD OF 'sigillarylaw02.DigestBlocks'. -/
def digestBlocksCard : Claim7 := { stood := { row := digestBlocksRow, standIns := [], harness := (true, "8f1307200286e1d4e4276c03f594d8edc24d045919cb0950615fa5c537e14963"), looks := true }, kinds := [], alts := [], laidByText := true, laidKinds := [.handle, .sentinel, .sentinel, .data], laidTests := true, laidLooks := .later }
def DigestBlocksCardSaid : Prop := Claim7.holds Tryd.pinned (.plain (OpenSpec.ofChange digestBlocksSpec)) digestBlocksCard

/-- THE TIED CARD OF 'sigillarylaw02.DigestEnds'. -/
def digestEndsCard : Claim7 := { stood := { row := digestEndsRow, standIns := [], harness := (true, "8f1307200286e1d4e4276c03f594d8edc24d045919cb0950615fa5c537e14963"), looks := true }, kinds := [], alts := [], laidByText := true, laidKinds := [.handle, .sentinel, .sentinel, .data], laidTests := true, laidLooks := .later }
def DigestEndsCardSaid : Prop := Claim7.holds Tryd.pinned (.plain (OpenSpec.ofChange digestEndsSpec)) digestEndsCard

/-- THE TIED CARD OF 'sigillarylaw02.DigestTwo'. -/
def digestTwoCard : Claim7 := { stood := { row := digestTwoRow, standIns := [], harness := (true, "8f1307200286e1d4e4276c03f594d8edc24d045919cb0950615fa5c537e14963"), looks := true }, kinds := [], alts := [], laidByText := true, laidKinds := [.handle, .sentinel, .sentinel, .data], laidTests := true, laidLooks := .later }
def DigestTwoCardSaid : Prop := Claim7.holds Tryd.pinned (.plain (OpenSpec.ofChange digestTwoSpec)) digestTwoCard

/-- THE TIED CARD OF 'sigillarylaw02.DigestPlays'. -/
def digestPlaysCard : Claim7 := { stood := { row := digestPlaysRow, standIns := [], harness := (true, "8f1307200286e1d4e4276c03f594d8edc24d045919cb0950615fa5c537e14963"), looks := true }, kinds := [], alts := [], laidByText := true, laidKinds := [.data, .handle, .sentinel, .sentinel, .data], laidTests := true, laidLooks := .later }
def DigestPlaysCardSaid : Prop := Claim7.holds Tryd.pinned (.plain (OpenSpec.ofChange digestPlaysSpec)) digestPlaysCard

/-- THE TIED CARD OF 'sigillarylaw02.DigestResets'. -/
def digestResetsCard : Claim7 := { stood := { row := digestResetsRow, standIns := [], harness := (true, "8f1307200286e1d4e4276c03f594d8edc24d045919cb0950615fa5c537e14963"), looks := true }, kinds := [], alts := [], laidByText := true, laidKinds := [.handle, .sentinel, .sentinel, .data], laidTests := true, laidLooks := .later }
def DigestResetsCardSaid : Prop := Claim7.holds Tryd.pinned (.plain (OpenSpec.ofChange digestResetsSpec)) digestResetsCard

/-- THE TIED CARD OF 'sigillarylaw03.TagTells'. -/
def tagTellsCard : Claim7 := { stood := { row := tagTellsRow, standIns := [], harness := (true, "8f1307200286e1d4e4276c03f594d8edc24d045919cb0950615fa5c537e14963"), looks := true }, kinds := [], alts := [], laidByText := true, laidKinds := [.data, .handle, .sentinel, .sentinel, .data], laidTests := true, laidLooks := .later }
def TagTellsCardSaid : Prop := Claim7.holds Tryd.pinned (.plain (OpenSpec.ofChange tagTellsSpec)) tagTellsCard

/-- THE TIED CARD OF 'sigillarylaw03.TagKeys'. -/
def tagKeysCard : Claim7 := { stood := { row := tagKeysRow, standIns := [], harness := (true, "8f1307200286e1d4e4276c03f594d8edc24d045919cb0950615fa5c537e14963"), looks := true }, kinds := [], alts := [], laidByText := true, laidKinds := [.handle, .sentinel, .sentinel, .data], laidTests := true, laidLooks := .later }
def TagKeysCardSaid : Prop := Claim7.holds Tryd.pinned (.plain (OpenSpec.ofChange tagKeysSpec)) tagKeysCard

/-- THE TIED CARD OF 'sigillarylaw03.TagBack'. -/
def tagBackCard : Claim7 := { stood := { row := tagBackRow, standIns := [], harness := (true, "8f1307200286e1d4e4276c03f594d8edc24d045919cb0950615fa5c537e14963"), looks := true }, kinds := [], alts := [], laidByText := true, laidKinds := [.handle, .sentinel, .sentinel, .data], laidTests := true, laidLooks := .later }
def TagBackCardSaid : Prop := Claim7.holds Tryd.pinned (.plain (OpenSpec.ofChange tagBackSpec)) tagBackCard

/-- THE TIED CARD OF 'sigillarylaw03.TagEnds'. -/
def tagEndsCard : Claim7 := { stood := { row := tagEndsRow, standIns := [], harness := (true, "8f1307200286e1d4e4276c03f594d8edc24d045919cb0950615fa5c537e14963"), looks := true }, kinds := [], alts := [], laidByText := true, laidKinds := [.handle, .sentinel, .sentinel, .data], laidTests := true, laidLooks := .later }
def TagEndsCardSaid : Prop := Claim7.holds Tryd.pinned (.plain (OpenSpec.ofChange tagEndsSpec)) tagEndsCard

/-- THE TIED CARD OF 'sigillarylaw03.TagParts'. -/
def tagPartsCard : Claim7 := { stood := { row := tagPartsRow, standIns := [], harness := (true, "8f1307200286e1d4e4276c03f594d8edc24d045919cb0950615fa5c537e14963"), looks := true }, kinds := [], alts := [], laidByText := true, laidKinds := [.handle, .sentinel, .sentinel, .data], laidTests := true, laidLooks := .later }
def TagPartsCardSaid : Prop := Claim7.holds Tryd.pinned (.plain (OpenSpec.ofChange tagPartsSpec)) tagPartsCard

/-- THE TIED CARD OF 'sigillarylaw03.TagJoins'. -/
def tagJoinsCard : Claim7 := { stood := { row := tagJoinsRow, standIns := [], harness := (true, "8f1307200286e1d4e4276c03f594d8edc24d045919cb0950615fa5c537e14963"), looks := true }, kinds := [], alts := [], laidByText := true, laidKinds := [.handle, .sentinel, .sentinel, .data], laidTests := true, laidLooks := .later }
def TagJoinsCardSaid : Prop := Claim7.holds Tryd.pinned (.plain (OpenSpec.ofChange tagJoinsSpec)) tagJoinsCard

/-- THE TIED CARD OF 'sigillarylaw03.TagEqual'. -/
def tagEqualCard : Claim7 := { stood := { row := tagEqualRow, standIns := [], harness := (true, "8f1307200286e1d4e4276c03f594d8edc24d045919cb0950615fa5c537e14963"), looks := true }, kinds := [], alts := [], laidByText := true, laidKinds := [.handle, .sentinel, .sentinel, .data], laidTests := true, laidLooks := .later }
def TagEqualCardSaid : Prop := Claim7.holds Tryd.pinned (.plain (OpenSpec.ofChange tagEqualSpec)) tagEqualCard

/-- THE SECOND FORM's CARD OF 'sigillarylaw01.RoundsTells'. -/
def roundsTellsUptoCard : Claim7 := { stood := { row := roundsTellsUptoRow, standIns := [], harness := (true, "8f1307200286e1d4e4276c03f594d8edc24d045919cb0950615fa5c537e14963"), looks := true }, kinds := [], alts := [], laidByText := true, laidKinds := [.data, .sentinel, .sentinel, .data], laidTests := true, laidLooks := .later }
def RoundsTellsUptoCardSaid : Prop := Claim7.holds Tryd.pinned (.plain (OpenSpec.upto roundsTellsSpec)) roundsTellsUptoCard

/-- THE SECOND FORM's CARD OF 'sigillarylaw01.RoundsParts'. -/
def roundsPartsUptoCard : Claim7 := { stood := { row := roundsPartsUptoRow, standIns := [], harness := (true, "8f1307200286e1d4e4276c03f594d8edc24d045919cb0950615fa5c537e14963"), looks := true }, kinds := [], alts := [], laidByText := true, laidKinds := [.sentinel, .sentinel, .data], laidTests := true, laidLooks := .later }
def RoundsPartsUptoCardSaid : Prop := Claim7.holds Tryd.pinned (.plain (OpenSpec.upto roundsPartsSpec)) roundsPartsUptoCard

/-- THE SECOND FORM's CARD OF 'sigillarylaw01.RoundsWords'. -/
def roundsWordsUptoCard : Claim7 := { stood := { row := roundsWordsUptoRow, standIns := [], harness := (true, "8f1307200286e1d4e4276c03f594d8edc24d045919cb0950615fa5c537e14963"), looks := true }, kinds := [], alts := [], laidByText := true, laidKinds := [.sentinel, .sentinel, .data], laidTests := true, laidLooks := .later }
def RoundsWordsUptoCardSaid : Prop := Claim7.holds Tryd.pinned (.plain (OpenSpec.upto roundsWordsSpec)) roundsWordsUptoCard

/-- THE SECOND FORM's CARD OF 'sigillarylaw01.RoundsBack'. -/
def roundsBackUptoCard : Claim7 := { stood := { row := roundsBackUptoRow, standIns := [], harness := (true, "8f1307200286e1d4e4276c03f594d8edc24d045919cb0950615fa5c537e14963"), looks := true }, kinds := [], alts := [], laidByText := true, laidKinds := [.sentinel, .sentinel, .data], laidTests := true, laidLooks := .later }
def RoundsBackUptoCardSaid : Prop := Claim7.holds Tryd.pinned (.plain (OpenSpec.upto roundsBackSpec)) roundsBackUptoCard

/-- THE SECOND FORM's CARD OF 'sigillarylaw01.RoundsWhole'. -/
def roundsWholeUptoCard : Claim7 := { stood := { row := roundsWholeUptoRow, standIns := [], harness := (true, "8f1307200286e1d4e4276c03f594d8edc24d045919cb0950615fa5c537e14963"), looks := true }, kinds := [], alts := [], laidByText := true, laidKinds := [.sentinel, .sentinel, .data], laidTests := true, laidLooks := .later }
def RoundsWholeUptoCardSaid : Prop := Claim7.holds Tryd.pinned (.plain (OpenSpec.upto roundsWholeSpec)) roundsWholeUptoCard

/-- THE SECOND FORM's CARD OF 'sigillarylaw01.RoundsApart'. -/
def roundsApartUptoCard : Claim7 := { stood := { row := roundsApartUptoRow, standIns := [], harness := (true, "8f1307200286e1d4e4276c03f594d8edc24d045919cb0950615fa5c537e14963"), looks := true }, kinds := [], alts := [], laidByText := true, laidKinds := [.sentinel, .sentinel, .data], laidTests := true, laidLooks := .later }
def RoundsApartUptoCardSaid : Prop := Claim7.holds Tryd.pinned (.plain (OpenSpec.upto roundsApartSpec)) roundsApartUptoCard

/-- THE SECOND FORM's CARD OF 'sigillarylaw02.DigestTells'. -/
def digestTellsUptoCard : Claim7 := { stood := { row := digestTellsUptoRow, standIns := [], harness := (true, "8f1307200286e1d4e4276c03f594d8edc24d045919cb0950615fa5c537e14963"), looks := true }, kinds := [], alts := [], laidByText := true, laidKinds := [.data, .handle, .sentinel, .sentinel, .data], laidTests := true, laidLooks := .later }
def DigestTellsUptoCardSaid : Prop := Claim7.holds Tryd.pinned (.plain (OpenSpec.upto digestTellsSpec)) digestTellsUptoCard

/-- THE SECOND FORM's CARD OF 'sigillarylaw02.DigestPieces'. -/
def digestPiecesUptoCard : Claim7 := { stood := { row := digestPiecesUptoRow, standIns := [], harness := (true, "8f1307200286e1d4e4276c03f594d8edc24d045919cb0950615fa5c537e14963"), looks := true }, kinds := [], alts := [], laidByText := true, laidKinds := [.handle, .sentinel, .sentinel, .data], laidTests := true, laidLooks := .later }
def DigestPiecesUptoCardSaid : Prop := Claim7.holds Tryd.pinned (.plain (OpenSpec.upto digestPiecesSpec)) digestPiecesUptoCard

/-- THE SECOND FORM's CARD OF 'sigillarylaw02.DigestBlocks'. -/
def digestBlocksUptoCard : Claim7 := { stood := { row := digestBlocksUptoRow, standIns := [], harness := (true, "8f1307200286e1d4e4276c03f594d8edc24d045919cb0950615fa5c537e14963"), looks := true }, kinds := [], alts := [], laidByText := true, laidKinds := [.handle, .sentinel, .sentinel, .data], laidTests := true, laidLooks := .later }
def DigestBlocksUptoCardSaid : Prop := Claim7.holds Tryd.pinned (.plain (OpenSpec.upto digestBlocksSpec)) digestBlocksUptoCard

/-- THE SECOND FORM's CARD OF 'sigillarylaw02.DigestEnds'. -/
def digestEndsUptoCard : Claim7 := { stood := { row := digestEndsUptoRow, standIns := [], harness := (true, "8f1307200286e1d4e4276c03f594d8edc24d045919cb0950615fa5c537e14963"), looks := true }, kinds := [], alts := [], laidByText := true, laidKinds := [.handle, .sentinel, .sentinel, .data], laidTests := true, laidLooks := .later }
def DigestEndsUptoCardSaid : Prop := Claim7.holds Tryd.pinned (.plain (OpenSpec.upto digestEndsSpec)) digestEndsUptoCard

/-- THE SECOND FORM's CARD OF 'sigillarylaw02.DigestTwo'. -/
def digestTwoUptoCard : Claim7 := { stood := { row := digestTwoUptoRow, standIns := [], harness := (true, "8f1307200286e1d4e4276c03f594d8edc24d045919cb0950615fa5c537e14963"), looks := true }, kinds := [], alts := [], laidByText := true, laidKinds := [.handle, .sentinel, .sentinel, .data], laidTests := true, laidLooks := .later }
def DigestTwoUptoCardSaid : Prop := Claim7.holds Tryd.pinned (.plain (OpenSpec.upto digestTwoSpec)) digestTwoUptoCard

/-- THE SECOND FORM's CARD OF 'sigillarylaw02.DigestPlays'. -/
def digestPlaysUptoCard : Claim7 := { stood := { row := digestPlaysUptoRow, standIns := [], harness := (true, "8f1307200286e1d4e4276c03f594d8edc24d045919cb0950615fa5c537e14963"), looks := true }, kinds := [], alts := [], laidByText := true, laidKinds := [.data, .handle, .sentinel, .sentinel, .data], laidTests := true, laidLooks := .later }
def DigestPlaysUptoCardSaid : Prop := Claim7.holds Tryd.pinned (.plain (OpenSpec.upto digestPlaysSpec)) digestPlaysUptoCard

/-- THE SECOND FORM's CARD OF 'sigillarylaw02.DigestResets'. -/
def digestResetsUptoCard : Claim7 := { stood := { row := digestResetsUptoRow, standIns := [], harness := (true, "8f1307200286e1d4e4276c03f594d8edc24d045919cb0950615fa5c537e14963"), looks := true }, kinds := [], alts := [], laidByText := true, laidKinds := [.handle, .sentinel, .sentinel, .data], laidTests := true, laidLooks := .later }
def DigestResetsUptoCardSaid : Prop := Claim7.holds Tryd.pinned (.plain (OpenSpec.upto digestResetsSpec)) digestResetsUptoCard

/-- THE SECOND FORM's CARD OF 'sigillarylaw03.TagTells'. -/
def tagTellsUptoCard : Claim7 := { stood := { row := tagTellsUptoRow, standIns := [], harness := (true, "8f1307200286e1d4e4276c03f594d8edc24d045919cb0950615fa5c537e14963"), looks := true }, kinds := [], alts := [], laidByText := true, laidKinds := [.data, .handle, .sentinel, .sentinel, .data], laidTests := true, laidLooks := .later }
def TagTellsUptoCardSaid : Prop := Claim7.holds Tryd.pinned (.plain (OpenSpec.upto tagTellsSpec)) tagTellsUptoCard

/-- THE SECOND FORM's CARD OF 'sigillarylaw03.TagKeys'. -/
def tagKeysUptoCard : Claim7 := { stood := { row := tagKeysUptoRow, standIns := [], harness := (true, "8f1307200286e1d4e4276c03f594d8edc24d045919cb0950615fa5c537e14963"), looks := true }, kinds := [], alts := [], laidByText := true, laidKinds := [.handle, .sentinel, .sentinel, .data], laidTests := true, laidLooks := .later }
def TagKeysUptoCardSaid : Prop := Claim7.holds Tryd.pinned (.plain (OpenSpec.upto tagKeysSpec)) tagKeysUptoCard

/-- THE SECOND FORM's CARD OF 'sigillarylaw03.TagBack'. -/
def tagBackUptoCard : Claim7 := { stood := { row := tagBackUptoRow, standIns := [], harness := (true, "8f1307200286e1d4e4276c03f594d8edc24d045919cb0950615fa5c537e14963"), looks := true }, kinds := [], alts := [], laidByText := true, laidKinds := [.handle, .sentinel, .sentinel, .data], laidTests := true, laidLooks := .later }
def TagBackUptoCardSaid : Prop := Claim7.holds Tryd.pinned (.plain (OpenSpec.upto tagBackSpec)) tagBackUptoCard

/-- THE SECOND FORM's CARD OF 'sigillarylaw03.TagEnds'. -/
def tagEndsUptoCard : Claim7 := { stood := { row := tagEndsUptoRow, standIns := [], harness := (true, "8f1307200286e1d4e4276c03f594d8edc24d045919cb0950615fa5c537e14963"), looks := true }, kinds := [], alts := [], laidByText := true, laidKinds := [.handle, .sentinel, .sentinel, .data], laidTests := true, laidLooks := .later }
def TagEndsUptoCardSaid : Prop := Claim7.holds Tryd.pinned (.plain (OpenSpec.upto tagEndsSpec)) tagEndsUptoCard

/-- THE SECOND FORM's CARD OF 'sigillarylaw03.TagParts'. -/
def tagPartsUptoCard : Claim7 := { stood := { row := tagPartsUptoRow, standIns := [], harness := (true, "8f1307200286e1d4e4276c03f594d8edc24d045919cb0950615fa5c537e14963"), looks := true }, kinds := [], alts := [], laidByText := true, laidKinds := [.handle, .sentinel, .sentinel, .data], laidTests := true, laidLooks := .later }
def TagPartsUptoCardSaid : Prop := Claim7.holds Tryd.pinned (.plain (OpenSpec.upto tagPartsSpec)) tagPartsUptoCard

/-- THE SECOND FORM's CARD OF 'sigillarylaw03.TagJoins'. -/
def tagJoinsUptoCard : Claim7 := { stood := { row := tagJoinsUptoRow, standIns := [], harness := (true, "8f1307200286e1d4e4276c03f594d8edc24d045919cb0950615fa5c537e14963"), looks := true }, kinds := [], alts := [], laidByText := true, laidKinds := [.handle, .sentinel, .sentinel, .data], laidTests := true, laidLooks := .later }
def TagJoinsUptoCardSaid : Prop := Claim7.holds Tryd.pinned (.plain (OpenSpec.upto tagJoinsSpec)) tagJoinsUptoCard

/-- THE SECOND FORM's CARD OF 'sigillarylaw03.TagEqual'. -/
def tagEqualUptoCard : Claim7 := { stood := { row := tagEqualUptoRow, standIns := [], harness := (true, "8f1307200286e1d4e4276c03f594d8edc24d045919cb0950615fa5c537e14963"), looks := true }, kinds := [], alts := [], laidByText := true, laidKinds := [.handle, .sentinel, .sentinel, .data], laidTests := true, laidLooks := .later }
def TagEqualUptoCardSaid : Prop := Claim7.holds Tryd.pinned (.plain (OpenSpec.upto tagEqualSpec)) tagEqualUptoCard
end Rows
end Go.Proofs.YtfafidholldjlaaDoor
