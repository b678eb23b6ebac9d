/-
  DERIVED. GIVEN WITH THE SEED: THE CARDS: each row of YtbikgdhbiebhcaaGreatDoorRows.lean that lists a variable, with what it lists TIED to the program's text (the seventh form; the later family's looks); each row that meets fmt, with fmt's text TOLD by the authors' own Lean function (tested against real Go, not proved from fmt's source: count such statements apart). THE CARD IS WHAT COUNTS. Prove the row's statement (the work); the ties are given (YtbikgdhbiebhcaaGreatDoorTie.lean); close each card by the builder's one call (the guide's Derived/Test/ToyasCard.lean, 'card_holds'). Laid BY PROGRAM, IN A SANDBOX (cutbox-door.mjs). By AI agents, Wed Nov 11 2026. No macro, syntax, notation, axiom, sorry.
-/
import Derived.Test.YtbikgdhbiebhcaaGreatDoorRows
import GoSem.ClaimSeven
namespace Go.Proofs.YtbikgdhbiebhcaaGreatDoor
namespace Rows

/-- THE TIED CARD OF 'sigillarytop.TopStyles'. -/
def topStylesCard : Claim7 := { stood := { row := topStylesRow, standIns := [], harness := (true, "3a822456983a4f98117ffc4806fe798a312fe6ddaddb48fe05b73957ac175703"), looks := true }, kinds := [], alts := [], laidByText := true, laidKinds := [.data, .data, .data, .data, .handle, .sentinel, .sentinel, .sentinel, .pinned], laidTests := true, laidLooks := .later }
def TopStylesCardSaid : Prop := Claim7.holds Tryz.pinned (.plain (OpenSpec.ofChange topStylesSpec)) topStylesCard

/-- THE TIED CARD OF 'sigillarytop.TopKeys'. -/
def topKeysCard : Claim7 := { stood := { row := topKeysRow, standIns := [], harness := (true, "3a822456983a4f98117ffc4806fe798a312fe6ddaddb48fe05b73957ac175703"), looks := true }, kinds := [], alts := [], laidByText := true, laidKinds := [.data, .data, .data, .data, .handle, .sentinel, .sentinel, .sentinel, .pinned], laidTests := true, laidLooks := .later }
def TopKeysCardSaid : Prop := Claim7.holds Tryz.pinned (.plain (OpenSpec.ofChange topKeysSpec)) topKeysCard

/-- THE SECOND FORM's CARD OF 'sigillarytop.TopStyles'. -/
def topStylesUptoCard : Claim7 := { stood := { row := topStylesUptoRow, standIns := [], harness := (true, "3a822456983a4f98117ffc4806fe798a312fe6ddaddb48fe05b73957ac175703"), looks := true }, kinds := [], alts := [], laidByText := true, laidKinds := [.data, .data, .data, .data, .handle, .sentinel, .sentinel, .sentinel, .pinned], laidTests := true, laidLooks := .later }
def TopStylesUptoCardSaid : Prop := Claim7.holds Tryz.pinned (.plain (OpenSpec.upto topStylesSpec)) topStylesUptoCard

/-- THE SECOND FORM's CARD OF 'sigillarytop.TopKeys'. -/
def topKeysUptoCard : Claim7 := { stood := { row := topKeysUptoRow, standIns := [], harness := (true, "3a822456983a4f98117ffc4806fe798a312fe6ddaddb48fe05b73957ac175703"), looks := true }, kinds := [], alts := [], laidByText := true, laidKinds := [.data, .data, .data, .data, .handle, .sentinel, .sentinel, .sentinel, .pinned], laidTests := true, laidLooks := .later }
def TopKeysUptoCardSaid : Prop := Claim7.holds Tryz.pinned (.plain (OpenSpec.upto topKeysSpec)) topKeysUptoCard
end Rows
end Go.Proofs.YtbikgdhbiebhcaaGreatDoor
