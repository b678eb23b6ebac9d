/-
  DERIVED. GIVEN WITH THE SEED: THE CARDS: each row of YtofikmdfiimbbaaDoorRows.lean that lists a variable, with what it lists TIED to the program's text (the seventh form; the later family's looks); each row that meets fmt, with fmt's text TOLD by the authors' own Lean function (tested against real Go, not proved from fmt's source: count such statements apart). THE CARD IS WHAT COUNTS. Prove the row's statement (the work); the ties are given (YtofikmdfiimbbaaDoorTie.lean); close each card by the builder's one call (the guide's Derived/Test/ToyasCard.lean, 'card_holds'). Laid BY PROGRAM, IN A SANDBOX (cutbox-door.mjs). By AI agents, Wed Nov 11 2026. No macro, syntax, notation, axiom, sorry.
-/
import Derived.Test.YtofikmdfiimbbaaDoorRows
import GoSem.ClaimSeven
namespace Go.Proofs.YtofikmdfiimbbaaDoor
namespace Rows

/-- THE TIED CARD OF 'sigillarylaw14.LinesTells'. -/
def linesTellsCard : Claim7 := { stood := { row := linesTellsRow, standIns := [], harness := (true, "8f29fbbfd7bd815b963afcfca07ee6176bf0a5be72fe5e83280378f4d772ac75"), looks := true }, kinds := [], alts := [], laidByText := true, laidKinds := [.data, .pinned], laidTests := true, laidLooks := .later }
def LinesTellsCardSaid : Prop := Claim7.holds Tryd.pinned (.plain (OpenSpec.ofChange linesTellsSpec)) linesTellsCard

/-- THE TIED CARD OF 'sigillarylaw14.LinesBack'. -/
def linesBackCard : Claim7 := { stood := { row := linesBackRow, standIns := [], harness := (true, "8f29fbbfd7bd815b963afcfca07ee6176bf0a5be72fe5e83280378f4d772ac75"), looks := true }, kinds := [], alts := [], laidByText := true, laidKinds := [.data, .pinned], laidTests := true, laidLooks := .later }
def LinesBackCardSaid : Prop := Claim7.holds Tryd.pinned (.plain (OpenSpec.ofChange linesBackSpec)) linesBackCard

/-- THE TIED CARD OF 'sigillarylaw14.LinesNotes'. -/
def linesNotesCard : Claim7 := { stood := { row := linesNotesRow, standIns := [], harness := (true, "8f29fbbfd7bd815b963afcfca07ee6176bf0a5be72fe5e83280378f4d772ac75"), looks := true }, kinds := [], alts := [], laidByText := true, laidKinds := [.data, .pinned], laidTests := true, laidLooks := .later }
def LinesNotesCardSaid : Prop := Claim7.holds Tryd.pinned (.plain (OpenSpec.ofChange linesNotesSpec)) linesNotesCard

/-- THE TIED CARD OF 'sigillarylaw14.LinesRise'. -/
def linesRiseCard : Claim7 := { stood := { row := linesRiseRow, standIns := [], harness := (true, "8f29fbbfd7bd815b963afcfca07ee6176bf0a5be72fe5e83280378f4d772ac75"), looks := true }, kinds := [], alts := [], laidByText := true, laidKinds := [.data, .pinned], laidTests := true, laidLooks := .later }
def LinesRiseCardSaid : Prop := Claim7.holds Tryd.pinned (.plain (OpenSpec.ofChange linesRiseSpec)) linesRiseCard

/-- THE TIED CARD OF 'sigillarylaw14.LinesJoins'. -/
def linesJoinsCard : Claim7 := { stood := { row := linesJoinsRow, standIns := [], harness := (true, "8f29fbbfd7bd815b963afcfca07ee6176bf0a5be72fe5e83280378f4d772ac75"), looks := true }, kinds := [], alts := [], laidByText := true, laidKinds := [.data, .pinned], laidTests := true, laidLooks := .later }
def LinesJoinsCardSaid : Prop := Claim7.holds Tryd.pinned (.plain (OpenSpec.ofChange linesJoinsSpec)) linesJoinsCard

/-- THE TIED CARD OF 'sigillarylaw14.LinesFirst'. -/
def linesFirstCard : Claim7 := { stood := { row := linesFirstRow, standIns := [], harness := (true, "8f29fbbfd7bd815b963afcfca07ee6176bf0a5be72fe5e83280378f4d772ac75"), looks := true }, kinds := [], alts := [], laidByText := true, laidKinds := [.data, .pinned], laidTests := true, laidLooks := .later }
def LinesFirstCardSaid : Prop := Claim7.holds Tryd.pinned (.plain (OpenSpec.ofChange linesFirstSpec)) linesFirstCard

/-- THE SECOND FORM's CARD OF 'sigillarylaw14.LinesTells'. -/
def linesTellsUptoCard : Claim7 := { stood := { row := linesTellsUptoRow, standIns := [], harness := (true, "8f29fbbfd7bd815b963afcfca07ee6176bf0a5be72fe5e83280378f4d772ac75"), looks := true }, kinds := [], alts := [], laidByText := true, laidKinds := [.data, .pinned], laidTests := true, laidLooks := .later }
def LinesTellsUptoCardSaid : Prop := Claim7.holds Tryd.pinned (.plain (OpenSpec.upto linesTellsSpec)) linesTellsUptoCard

/-- THE SECOND FORM's CARD OF 'sigillarylaw14.LinesBack'. -/
def linesBackUptoCard : Claim7 := { stood := { row := linesBackUptoRow, standIns := [], harness := (true, "8f29fbbfd7bd815b963afcfca07ee6176bf0a5be72fe5e83280378f4d772ac75"), looks := true }, kinds := [], alts := [], laidByText := true, laidKinds := [.data, .pinned], laidTests := true, laidLooks := .later }
def LinesBackUptoCardSaid : Prop := Claim7.holds Tryd.pinned (.plain (OpenSpec.upto linesBackSpec)) linesBackUptoCard

/-- THE SECOND FORM's CARD OF 'sigillarylaw14.LinesNotes'. -/
def linesNotesUptoCard : Claim7 := { stood := { row := linesNotesUptoRow, standIns := [], harness := (true, "8f29fbbfd7bd815b963afcfca07ee6176bf0a5be72fe5e83280378f4d772ac75"), looks := true }, kinds := [], alts := [], laidByText := true, laidKinds := [.data, .pinned], laidTests := true, laidLooks := .later }
def LinesNotesUptoCardSaid : Prop := Claim7.holds Tryd.pinned (.plain (OpenSpec.upto linesNotesSpec)) linesNotesUptoCard

/-- THE SECOND FORM's CARD OF 'sigillarylaw14.LinesRise'. -/
def linesRiseUptoCard : Claim7 := { stood := { row := linesRiseUptoRow, standIns := [], harness := (true, "8f29fbbfd7bd815b963afcfca07ee6176bf0a5be72fe5e83280378f4d772ac75"), looks := true }, kinds := [], alts := [], laidByText := true, laidKinds := [.data, .pinned], laidTests := true, laidLooks := .later }
def LinesRiseUptoCardSaid : Prop := Claim7.holds Tryd.pinned (.plain (OpenSpec.upto linesRiseSpec)) linesRiseUptoCard

/-- THE SECOND FORM's CARD OF 'sigillarylaw14.LinesJoins'. -/
def linesJoinsUptoCard : Claim7 := { stood := { row := linesJoinsUptoRow, standIns := [], harness := (true, "8f29fbbfd7bd815b963afcfca07ee6176bf0a5be72fe5e83280378f4d772ac75"), looks := true }, kinds := [], alts := [], laidByText := true, laidKinds := [.data, .pinned], laidTests := true, laidLooks := .later }
def LinesJoinsUptoCardSaid : Prop := Claim7.holds Tryd.pinned (.plain (OpenSpec.upto linesJoinsSpec)) linesJoinsUptoCard

/-- THE SECOND FORM's CARD OF 'sigillarylaw14.LinesFirst'. -/
def linesFirstUptoCard : Claim7 := { stood := { row := linesFirstUptoRow, standIns := [], harness := (true, "8f29fbbfd7bd815b963afcfca07ee6176bf0a5be72fe5e83280378f4d772ac75"), looks := true }, kinds := [], alts := [], laidByText := true, laidKinds := [.data, .pinned], laidTests := true, laidLooks := .later }
def LinesFirstUptoCardSaid : Prop := Claim7.holds Tryd.pinned (.plain (OpenSpec.upto linesFirstSpec)) linesFirstUptoCard
end Rows
end Go.Proofs.YtofikmdfiimbbaaDoor
