/-
  DERIVED. GIVEN WITH THE SEED: THE CARDS: each row of YtmnemajgnfdikaaDoorRows.lean that lists a variable, with what it lists TIED to the program's text (the seventh form; the later family's looks); each row that meets fmt, with fmt's text TOLD by the authors' own Lean function (tested against real Go, not proved from fmt's source: count such statements apart). THE CARD IS WHAT COUNTS. Prove the row's statement (the work); the ties are given (YtmnemajgnfdikaaDoorTie.lean); close each card by the builder's one call (the guide's Derived/Test/ToyasCard.lean, 'card_holds'). Laid BY PROGRAM, IN A SANDBOX (cutbox-door.mjs). By AI agents, Wed Nov 11 2026. No macro, syntax, notation, axiom, sorry.
-/
import Derived.Test.YtmnemajgnfdikaaDoorRows
import GoSem.ClaimSeven
namespace Go.Proofs.YtmnemajgnfdikaaDoor
namespace Rows

/-- THE TIED CARD OF 'portholelaw21.GridKnown'. -/
def gridKnownCard : Claim7 := { stood := { row := gridKnownRow, standIns := [], harness := (true, "767445981b77ed9f3f645c2a869bf5e51fe0d298a0174e1d122804ff5df89d5d"), looks := false }, kinds := [], alts := [], laidByText := true, laidKinds := [.data, .pinned], laidTests := true, laidLooks := .later }
def GridKnownCardSaid : Prop := Claim7.holds Tryd.pinned (.plain (OpenSpec.ofChange gridKnownSpec)) gridKnownCard

/-- THE SECOND FORM's CARD OF 'portholelaw21.GridKnown'. -/
def gridKnownUptoCard : Claim7 := { stood := { row := gridKnownUptoRow, standIns := [], harness := (true, "767445981b77ed9f3f645c2a869bf5e51fe0d298a0174e1d122804ff5df89d5d"), looks := false }, kinds := [], alts := [], laidByText := true, laidKinds := [.data, .pinned], laidTests := true, laidLooks := .later }
def GridKnownUptoCardSaid : Prop := Claim7.holds Tryd.pinned (.plain (OpenSpec.upto gridKnownSpec)) gridKnownUptoCard
end Rows
end Go.Proofs.YtmnemajgnfdikaaDoor
