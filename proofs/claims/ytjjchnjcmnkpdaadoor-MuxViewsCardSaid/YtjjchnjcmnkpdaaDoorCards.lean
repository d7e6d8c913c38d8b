/-
  DERIVED. GIVEN WITH THE SEED: THE CARDS: each row of YtjjchnjcmnkpdaaDoorRows.lean that lists a variable, with what it lists TIED to the program's text (the seventh form; the later family's looks); each row that meets fmt, with fmt's text TOLD by the authors' own Lean function (tested against real Go, not proved from fmt's source: count such statements apart). THE CARD IS WHAT COUNTS. Prove the row's statement (the work); the ties are given (YtjjchnjcmnkpdaaDoorTie.lean); close each card by the builder's one call (the guide's Derived/Test/ToyasCard.lean, 'card_holds'). Laid BY PROGRAM, IN A SANDBOX (cutbox-door.mjs). By AI agents, Wed Nov 11 2026. No macro, syntax, notation, axiom, sorry.
-/
import Derived.Test.YtjjchnjcmnkpdaaDoorRows
import GoSem.ClaimSeven
namespace Go.Proofs.YtjjchnjcmnkpdaaDoor
namespace Rows

/-- THE TIED CARD OF 'portholelaw23.MuxViews'. -/
def muxViewsCard : Claim7 := { stood := { row := muxViewsRow, standIns := [], harness := (true, "709f581fc9b02ddd376dce928cf7c164d1637d616fa4139224baad90b168a4b7"), looks := false }, kinds := [], alts := [], laidByText := true, laidKinds := [.data, .data, .data, .pinned], laidTests := true, laidLooks := .later }
def MuxViewsCardSaid : Prop := Claim7.holds Tryd.pinned (.plain (OpenSpec.ofChange muxViewsSpec)) muxViewsCard

/-- THE SECOND FORM's CARD OF 'portholelaw23.MuxViews'. -/
def muxViewsUptoCard : Claim7 := { stood := { row := muxViewsUptoRow, standIns := [], harness := (true, "709f581fc9b02ddd376dce928cf7c164d1637d616fa4139224baad90b168a4b7"), looks := false }, kinds := [], alts := [], laidByText := true, laidKinds := [.data, .data, .data, .pinned], laidTests := true, laidLooks := .later }
def MuxViewsUptoCardSaid : Prop := Claim7.holds Tryd.pinned (.plain (OpenSpec.upto muxViewsSpec)) muxViewsUptoCard
end Rows
end Go.Proofs.YtjjchnjcmnkpdaaDoor
