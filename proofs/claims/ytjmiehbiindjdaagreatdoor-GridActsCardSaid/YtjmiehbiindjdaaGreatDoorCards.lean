/-
  DERIVED. GIVEN WITH THE SEED: THE CARDS: each row of YtjmiehbiindjdaaGreatDoorRows.lean that lists a variable, with what it lists TIED to the program's text (the seventh form; the later family's looks); each row that meets fmt, with fmt's text TOLD by the authors' own Lean function (tested against real Go, not proved from fmt's source: count such statements apart). THE CARD IS WHAT COUNTS. Prove the row's statement (the work); the ties are given (YtjmiehbiindjdaaGreatDoorTie.lean); close each card by the builder's one call (the guide's Derived/Test/ToyasCard.lean, 'card_holds'). Laid BY PROGRAM, IN A SANDBOX (cutbox-door.mjs). By AI agents, Wed Nov 11 2026. No macro, syntax, notation, axiom, sorry.
-/
import Derived.Test.YtjmiehbiindjdaaGreatDoorRows
import GoSem.ClaimSeven
namespace Go.Proofs.YtjmiehbiindjdaaGreatDoor
namespace Rows

/-- THE TIED CARD OF 'portholelaw21.GridActs'. -/
def gridActsCard : Claim7 := { stood := { row := gridActsRow, standIns := [], harness := (true, "ef88b392ebbb625c574d97d2ce420423f43d116f53ffdd8847e479e4b8af708a"), looks := false }, kinds := [], alts := [], laidByText := true, laidKinds := [.data, .pinned], laidTests := true, laidLooks := .later }
def GridActsCardSaid : Prop := Claim7.holds Tryz.pinned (.plain (OpenSpec.ofChange gridActsSpec)) gridActsCard

/-- THE TIED CARD OF 'portholelaw21.GridWrites'. -/
def gridWritesCard : Claim7 := { stood := { row := gridWritesRow, standIns := [], harness := (true, "ef88b392ebbb625c574d97d2ce420423f43d116f53ffdd8847e479e4b8af708a"), looks := false }, kinds := [], alts := [], laidByText := true, laidKinds := [.data, .data, .data, .pinned], laidTests := true, laidLooks := .later }
def GridWritesCardSaid : Prop := Claim7.holds Tryz.pinned (.plain (OpenSpec.ofChange gridWritesSpec)) gridWritesCard

/-- THE SECOND FORM's CARD OF 'portholelaw21.GridActs'. -/
def gridActsUptoCard : Claim7 := { stood := { row := gridActsUptoRow, standIns := [], harness := (true, "ef88b392ebbb625c574d97d2ce420423f43d116f53ffdd8847e479e4b8af708a"), looks := false }, kinds := [], alts := [], laidByText := true, laidKinds := [.data, .pinned], laidTests := true, laidLooks := .later }
def GridActsUptoCardSaid : Prop := Claim7.holds Tryz.pinned (.plain (OpenSpec.upto gridActsSpec)) gridActsUptoCard

/-- THE SECOND FORM's CARD OF 'portholelaw21.GridWrites'. -/
def gridWritesUptoCard : Claim7 := { stood := { row := gridWritesUptoRow, standIns := [], harness := (true, "ef88b392ebbb625c574d97d2ce420423f43d116f53ffdd8847e479e4b8af708a"), looks := false }, kinds := [], alts := [], laidByText := true, laidKinds := [.data, .data, .data, .pinned], laidTests := true, laidLooks := .later }
def GridWritesUptoCardSaid : Prop := Claim7.holds Tryz.pinned (.plain (OpenSpec.upto gridWritesSpec)) gridWritesUptoCard
end Rows
end Go.Proofs.YtjmiehbiindjdaaGreatDoor
