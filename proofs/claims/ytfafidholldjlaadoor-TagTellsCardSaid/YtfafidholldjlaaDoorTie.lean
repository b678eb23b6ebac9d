/-
  DERIVED. GIVEN WITH THE SEED: THE PROGRAM's TIES (one call each: nine closed facts by the kernel) AND EACH ROW's TIE, after the 31st guide's Derived/Test/Toyas{Tie, Card}.lean. No idea stands in it: it is a product of the set-up. Laid BY PROGRAM, IN A SANDBOX (cutbox-door.mjs). By AI agents, Wed Nov 11 2026. No macro, syntax, notation, axiom, sorry.
-/
import Derived.Test.YtfafidholldjlaaDoorRows
import Derived.LaidByTextLater
import Derived.SevenTiedAt
import Derived.LaidSub
import Derived.LaidOnce
namespace Go.Proofs.YtfafidholldjlaaDoor
open Go
set_option maxRecDepth 100000
theorem seatTie1 : Tryd.prog.laidByTextLater [("sigillary/sigillaryref01.k", Rows.laid_sigillary_sigillaryref01_k), ("errors.errorType", Rows.laid_errors_errorType), ("sigillary/rounds.errBlock", Rows.laid_sigillary_rounds_errBlock), ("sigillary/rounds.errWord", Rows.laid_sigillary_rounds_errWord), ("sigillary/rounds.constants", Rows.laid_sigillary_rounds_constants)] [.data, .handle, .sentinel, .sentinel, .data] true :=
  Program.laidByTextLater_by_one 64 8 65 (by kernel_rfl) (by kernel_rfl) (by kernel_rfl) (by kernel_rfl) (by kernel_rfl) (by kernel_rfl) (fun _ _ => by kernel_rfl)
theorem noOwnUnsafe : Tryd.pinned.checked.prog.headLifts.contains "ownunsafe" = false := by kernel_rfl
theorem tie : Tryd.prog.laidByTextLater [("sigillary/sigillaryref01.k", Rows.laid_sigillary_sigillaryref01_k), ("sigillary/rounds.errBlock", Rows.laid_sigillary_rounds_errBlock), ("sigillary/rounds.errWord", Rows.laid_sigillary_rounds_errWord), ("sigillary/rounds.constants", Rows.laid_sigillary_rounds_constants)] [.data, .sentinel, .sentinel, .data] true :=
  Program.laidByTextLater.sub seatTie1 ["sigillary/sigillaryref01.k", "sigillary/rounds.errBlock", "sigillary/rounds.errWord", "sigillary/rounds.constants"] (by kernel_rfl) (by kernel_rfl)
theorem roundsTells_row_tie : Rows.roundsTellsRow.laidByTextAt .later Tryd.pinned [.data, .sentinel, .sentinel, .data] true :=
  OpenClaim.laidByTextAt_later rfl rfl tie noOwnUnsafe
theorem tie2 : Tryd.prog.laidByTextLater [("sigillary/rounds.errBlock", Rows.laid_sigillary_rounds_errBlock), ("sigillary/rounds.errWord", Rows.laid_sigillary_rounds_errWord), ("sigillary/rounds.constants", Rows.laid_sigillary_rounds_constants)] [.sentinel, .sentinel, .data] true :=
  Program.laidByTextLater.sub seatTie1 ["sigillary/rounds.errBlock", "sigillary/rounds.errWord", "sigillary/rounds.constants"] (by kernel_rfl) (by kernel_rfl)
theorem roundsParts_row_tie : Rows.roundsPartsRow.laidByTextAt .later Tryd.pinned [.sentinel, .sentinel, .data] true :=
  OpenClaim.laidByTextAt_later rfl rfl tie2 noOwnUnsafe
theorem roundsWords_row_tie : Rows.roundsWordsRow.laidByTextAt .later Tryd.pinned [.sentinel, .sentinel, .data] true :=
  OpenClaim.laidByTextAt_later rfl rfl tie2 noOwnUnsafe
theorem roundsBack_row_tie : Rows.roundsBackRow.laidByTextAt .later Tryd.pinned [.sentinel, .sentinel, .data] true :=
  OpenClaim.laidByTextAt_later rfl rfl tie2 noOwnUnsafe
theorem roundsWhole_row_tie : Rows.roundsWholeRow.laidByTextAt .later Tryd.pinned [.sentinel, .sentinel, .data] true :=
  OpenClaim.laidByTextAt_later rfl rfl tie2 noOwnUnsafe
theorem roundsApart_row_tie : Rows.roundsApartRow.laidByTextAt .later Tryd.pinned [.sentinel, .sentinel, .data] true :=
  OpenClaim.laidByTextAt_later rfl rfl tie2 noOwnUnsafe
theorem tie3 : Tryd.prog.laidByTextLater [("sigillary/sigillaryref01.k", Rows.laid_sigillary_sigillaryref01_k), ("errors.errorType", Rows.laid_errors_errorType), ("sigillary/rounds.errBlock", Rows.laid_sigillary_rounds_errBlock), ("sigillary/rounds.errWord", Rows.laid_sigillary_rounds_errWord), ("sigillary/rounds.constants", Rows.laid_sigillary_rounds_constants)] [.data, .handle, .sentinel, .sentinel, .data] true :=
  Program.laidByTextLater.sub seatTie1 ["sigillary/sigillaryref01.k", "errors.errorType", "sigillary/rounds.errBlock", "sigillary/rounds.errWord", "sigillary/rounds.constants"] (by kernel_rfl) (by kernel_rfl)
theorem digestTells_row_tie : Rows.digestTellsRow.laidByTextAt .later Tryd.pinned [.data, .handle, .sentinel, .sentinel, .data] true :=
  OpenClaim.laidByTextAt_later rfl rfl tie3 noOwnUnsafe
theorem digestPlays_row_tie : Rows.digestPlaysRow.laidByTextAt .later Tryd.pinned [.data, .handle, .sentinel, .sentinel, .data] true :=
  OpenClaim.laidByTextAt_later rfl rfl tie3 noOwnUnsafe
theorem tagTells_row_tie : Rows.tagTellsRow.laidByTextAt .later Tryd.pinned [.data, .handle, .sentinel, .sentinel, .data] true :=
  OpenClaim.laidByTextAt_later rfl rfl tie3 noOwnUnsafe
theorem tie4 : Tryd.prog.laidByTextLater [("errors.errorType", Rows.laid_errors_errorType), ("sigillary/rounds.errBlock", Rows.laid_sigillary_rounds_errBlock), ("sigillary/rounds.errWord", Rows.laid_sigillary_rounds_errWord), ("sigillary/rounds.constants", Rows.laid_sigillary_rounds_constants)] [.handle, .sentinel, .sentinel, .data] true :=
  Program.laidByTextLater.sub seatTie1 ["errors.errorType", "sigillary/rounds.errBlock", "sigillary/rounds.errWord", "sigillary/rounds.constants"] (by kernel_rfl) (by kernel_rfl)
theorem digestPieces_row_tie : Rows.digestPiecesRow.laidByTextAt .later Tryd.pinned [.handle, .sentinel, .sentinel, .data] true :=
  OpenClaim.laidByTextAt_later rfl rfl tie4 noOwnUnsafe
theorem digestBlocks_row_tie : Rows.digestBlocksRow.laidByTextAt .later Tryd.pinned [.handle, .sentinel, .sentinel, .data] true :=
  OpenClaim.laidByTextAt_later rfl rfl tie4 noOwnUnsafe
theorem digestEnds_row_tie : Rows.digestEndsRow.laidByTextAt .later Tryd.pinned [.handle, .sentinel, .sentinel, .data] true :=
  OpenClaim.laidByTextAt_later rfl rfl tie4 noOwnUnsafe
theorem digestTwo_row_tie : Rows.digestTwoRow.laidByTextAt .later Tryd.pinned [.handle, .sentinel, .sentinel, .data] true :=
  OpenClaim.laidByTextAt_later rfl rfl tie4 noOwnUnsafe
theorem digestResets_row_tie : Rows.digestResetsRow.laidByTextAt .later Tryd.pinned [.handle, .sentinel, .sentinel, .data] true :=
  OpenClaim.laidByTextAt_later rfl rfl tie4 noOwnUnsafe
theorem tagKeys_row_tie : Rows.tagKeysRow.laidByTextAt .later Tryd.pinned [.handle, .sentinel, .sentinel, .data] true :=
  OpenClaim.laidByTextAt_later rfl rfl tie4 noOwnUnsafe
theorem tagBack_row_tie : Rows.tagBackRow.laidByTextAt .later Tryd.pinned [.handle, .sentinel, .sentinel, .data] true :=
  OpenClaim.laidByTextAt_later rfl rfl tie4 noOwnUnsafe
theorem tagEnds_row_tie : Rows.tagEndsRow.laidByTextAt .later Tryd.pinned [.handle, .sentinel, .sentinel, .data] true :=
  OpenClaim.laidByTextAt_later rfl rfl tie4 noOwnUnsafe
theorem tagParts_row_tie : Rows.tagPartsRow.laidByTextAt .later Tryd.pinned [.handle, .sentinel, .sentinel, .data] true :=
  OpenClaim.laidByTextAt_later rfl rfl tie4 noOwnUnsafe
theorem tagJoins_row_tie : Rows.tagJoinsRow.laidByTextAt .later Tryd.pinned [.handle, .sentinel, .sentinel, .data] true :=
  OpenClaim.laidByTextAt_later rfl rfl tie4 noOwnUnsafe
theorem tagEqual_row_tie : Rows.tagEqualRow.laidByTextAt .later Tryd.pinned [.handle, .sentinel, .sentinel, .data] true :=
  OpenClaim.laidByTextAt_later rfl rfl tie4 noOwnUnsafe
theorem roundsTellsUpto_row_tie : Rows.roundsTellsUptoRow.laidByTextAt .later Tryd.pinned [.data, .sentinel, .sentinel, .data] true :=
  OpenClaim.laidByTextAt_later rfl rfl tie noOwnUnsafe
theorem roundsPartsUpto_row_tie : Rows.roundsPartsUptoRow.laidByTextAt .later Tryd.pinned [.sentinel, .sentinel, .data] true :=
  OpenClaim.laidByTextAt_later rfl rfl tie2 noOwnUnsafe
theorem roundsWordsUpto_row_tie : Rows.roundsWordsUptoRow.laidByTextAt .later Tryd.pinned [.sentinel, .sentinel, .data] true :=
  OpenClaim.laidByTextAt_later rfl rfl tie2 noOwnUnsafe
theorem roundsBackUpto_row_tie : Rows.roundsBackUptoRow.laidByTextAt .later Tryd.pinned [.sentinel, .sentinel, .data] true :=
  OpenClaim.laidByTextAt_later rfl rfl tie2 noOwnUnsafe
theorem roundsWholeUpto_row_tie : Rows.roundsWholeUptoRow.laidByTextAt .later Tryd.pinned [.sentinel, .sentinel, .data] true :=
  OpenClaim.laidByTextAt_later rfl rfl tie2 noOwnUnsafe
theorem roundsApartUpto_row_tie : Rows.roundsApartUptoRow.laidByTextAt .later Tryd.pinned [.sentinel, .sentinel, .data] true :=
  OpenClaim.laidByTextAt_later rfl rfl tie2 noOwnUnsafe
theorem digestTellsUpto_row_tie : Rows.digestTellsUptoRow.laidByTextAt .later Tryd.pinned [.data, .handle, .sentinel, .sentinel, .data] true :=
  OpenClaim.laidByTextAt_later rfl rfl tie3 noOwnUnsafe
theorem digestPiecesUpto_row_tie : Rows.digestPiecesUptoRow.laidByTextAt .later Tryd.pinned [.handle, .sentinel, .sentinel, .data] true :=
  OpenClaim.laidByTextAt_later rfl rfl tie4 noOwnUnsafe
theorem digestBlocksUpto_row_tie : Rows.digestBlocksUptoRow.laidByTextAt .later Tryd.pinned [.handle, .sentinel, .sentinel, .data] true :=
  OpenClaim.laidByTextAt_later rfl rfl tie4 noOwnUnsafe
theorem digestEndsUpto_row_tie : Rows.digestEndsUptoRow.laidByTextAt .later Tryd.pinned [.handle, .sentinel, .sentinel, .data] true :=
  OpenClaim.laidByTextAt_later rfl rfl tie4 noOwnUnsafe
theorem digestTwoUpto_row_tie : Rows.digestTwoUptoRow.laidByTextAt .later Tryd.pinned [.handle, .sentinel, .sentinel, .data] true :=
  OpenClaim.laidByTextAt_later rfl rfl tie4 noOwnUnsafe
theorem digestPlaysUpto_row_tie : Rows.digestPlaysUptoRow.laidByTextAt .later Tryd.pinned [.data, .handle, .sentinel, .sentinel, .data] true :=
  OpenClaim.laidByTextAt_later rfl rfl tie3 noOwnUnsafe
theorem digestResetsUpto_row_tie : Rows.digestResetsUptoRow.laidByTextAt .later Tryd.pinned [.handle, .sentinel, .sentinel, .data] true :=
  OpenClaim.laidByTextAt_later rfl rfl tie4 noOwnUnsafe
theorem tagTellsUpto_row_tie : Rows.tagTellsUptoRow.laidByTextAt .later Tryd.pinned [.data, .handle, .sentinel, .sentinel, .data] true :=
  OpenClaim.laidByTextAt_later rfl rfl tie3 noOwnUnsafe
theorem tagKeysUpto_row_tie : Rows.tagKeysUptoRow.laidByTextAt .later Tryd.pinned [.handle, .sentinel, .sentinel, .data] true :=
  OpenClaim.laidByTextAt_later rfl rfl tie4 noOwnUnsafe
theorem tagBackUpto_row_tie : Rows.tagBackUptoRow.laidByTextAt .later Tryd.pinned [.handle, .sentinel, .sentinel, .data] true :=
  OpenClaim.laidByTextAt_later rfl rfl tie4 noOwnUnsafe
theorem tagEndsUpto_row_tie : Rows.tagEndsUptoRow.laidByTextAt .later Tryd.pinned [.handle, .sentinel, .sentinel, .data] true :=
  OpenClaim.laidByTextAt_later rfl rfl tie4 noOwnUnsafe
theorem tagPartsUpto_row_tie : Rows.tagPartsUptoRow.laidByTextAt .later Tryd.pinned [.handle, .sentinel, .sentinel, .data] true :=
  OpenClaim.laidByTextAt_later rfl rfl tie4 noOwnUnsafe
theorem tagJoinsUpto_row_tie : Rows.tagJoinsUptoRow.laidByTextAt .later Tryd.pinned [.handle, .sentinel, .sentinel, .data] true :=
  OpenClaim.laidByTextAt_later rfl rfl tie4 noOwnUnsafe
theorem tagEqualUpto_row_tie : Rows.tagEqualUptoRow.laidByTextAt .later Tryd.pinned [.handle, .sentinel, .sentinel, .data] true :=
  OpenClaim.laidByTextAt_later rfl rfl tie4 noOwnUnsafe
end Go.Proofs.YtfafidholldjlaaDoor
