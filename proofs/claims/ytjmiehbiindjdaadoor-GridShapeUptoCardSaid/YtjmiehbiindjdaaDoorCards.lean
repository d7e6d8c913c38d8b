/-
  DERIVED. GIVEN WITH THE SEED: THE CARDS: each row of YtjmiehbiindjdaaDoorRows.lean that lists a variable, with what it lists TIED to the program's text (the seventh form; the later family's looks); each row that meets fmt, with fmt's text TOLD by the authors' own Lean function (tested against real Go, not proved from fmt's source: count such statements apart). THE CARD IS WHAT COUNTS. Prove the row's statement (the work); the ties are given (YtjmiehbiindjdaaDoorTie.lean); close each card by the builder's one call (the guide's Derived/Test/ToyasCard.lean, 'card_holds'). Laid BY PROGRAM, IN A SANDBOX (cutbox-door.mjs). By AI agents, Wed Nov 11 2026. No macro, syntax, notation, axiom, sorry.
-/
import Derived.Test.YtjmiehbiindjdaaDoorRows
import GoSem.ClaimSeven
namespace Go.Proofs.YtjmiehbiindjdaaDoor
namespace Rows

/-- THE TIED CARD OF 'portholelaw21.GridTexts'. -/
def gridTextsCard : Claim7 := { stood := { row := gridTextsRow, standIns := [], harness := (true, "b7712fc3ea86f8a665b162f485cc9f1bb59863ddac3bac5724dd2593c4097ab7"), looks := false }, kinds := [], alts := [], laidByText := true, laidKinds := [.data, .pinned], laidTests := true, laidLooks := .later }
def GridTextsCardSaid : Prop := Claim7.holds Tryd.pinned (.plain (OpenSpec.ofChange gridTextsSpec)) gridTextsCard

/-- THE TIED CARD OF 'portholelaw21.GridPieces'. -/
def gridPiecesCard : Claim7 := { stood := { row := gridPiecesRow, standIns := [], harness := (true, "b7712fc3ea86f8a665b162f485cc9f1bb59863ddac3bac5724dd2593c4097ab7"), looks := false }, kinds := [], alts := [], laidByText := true, laidKinds := [.data, .data, .data, .pinned], laidTests := true, laidLooks := .later }
def GridPiecesCardSaid : Prop := Claim7.holds Tryd.pinned (.plain (OpenSpec.ofChange gridPiecesSpec)) gridPiecesCard

/-- THE TIED CARD OF 'portholelaw21.GridMoves'. -/
def gridMovesCard : Claim7 := { stood := { row := gridMovesRow, standIns := [], harness := (true, "b7712fc3ea86f8a665b162f485cc9f1bb59863ddac3bac5724dd2593c4097ab7"), looks := false }, kinds := [], alts := [], laidByText := true, laidKinds := [.data, .pinned], laidTests := true, laidLooks := .later }
def GridMovesCardSaid : Prop := Claim7.holds Tryd.pinned (.plain (OpenSpec.ofChange gridMovesSpec)) gridMovesCard

/-- THE TIED CARD OF 'portholelaw21.GridErases'. -/
def gridErasesCard : Claim7 := { stood := { row := gridErasesRow, standIns := [], harness := (true, "b7712fc3ea86f8a665b162f485cc9f1bb59863ddac3bac5724dd2593c4097ab7"), looks := false }, kinds := [], alts := [], laidByText := true, laidKinds := [.data, .pinned], laidTests := true, laidLooks := .later }
def GridErasesCardSaid : Prop := Claim7.holds Tryd.pinned (.plain (OpenSpec.ofChange gridErasesSpec)) gridErasesCard

/-- THE TIED CARD OF 'portholelaw21.GridStyles'. -/
def gridStylesCard : Claim7 := { stood := { row := gridStylesRow, standIns := [], harness := (true, "b7712fc3ea86f8a665b162f485cc9f1bb59863ddac3bac5724dd2593c4097ab7"), looks := false }, kinds := [], alts := [], laidByText := true, laidKinds := [.data, .pinned], laidTests := true, laidLooks := .later }
def GridStylesCardSaid : Prop := Claim7.holds Tryd.pinned (.plain (OpenSpec.ofChange gridStylesSpec)) gridStylesCard

/-- THE TIED CARD OF 'portholelaw21.GridAway'. -/
def gridAwayCard : Claim7 := { stood := { row := gridAwayRow, standIns := [], harness := (true, "b7712fc3ea86f8a665b162f485cc9f1bb59863ddac3bac5724dd2593c4097ab7"), looks := false }, kinds := [], alts := [], laidByText := true, laidKinds := [.data, .data, .data, .pinned], laidTests := true, laidLooks := .later }
def GridAwayCardSaid : Prop := Claim7.holds Tryd.pinned (.plain (OpenSpec.ofChange gridAwaySpec)) gridAwayCard

/-- THE TIED CARD OF 'portholelaw21.GridRegion'. -/
def gridRegionCard : Claim7 := { stood := { row := gridRegionRow, standIns := [], harness := (true, "b7712fc3ea86f8a665b162f485cc9f1bb59863ddac3bac5724dd2593c4097ab7"), looks := false }, kinds := [], alts := [], laidByText := true, laidKinds := [.data, .pinned], laidTests := true, laidLooks := .later }
def GridRegionCardSaid : Prop := Claim7.holds Tryd.pinned (.plain (OpenSpec.ofChange gridRegionSpec)) gridRegionCard

/-- THE TIED CARD OF 'portholelaw21.GridWraps'. -/
def gridWrapsCard : Claim7 := { stood := { row := gridWrapsRow, standIns := [], harness := (true, "b7712fc3ea86f8a665b162f485cc9f1bb59863ddac3bac5724dd2593c4097ab7"), looks := false }, kinds := [], alts := [], laidByText := true, laidKinds := [.data, .pinned], laidTests := true, laidLooks := .later }
def GridWrapsCardSaid : Prop := Claim7.holds Tryd.pinned (.plain (OpenSpec.ofChange gridWrapsSpec)) gridWrapsCard

/-- THE TIED CARD OF 'portholelaw21.GridShape'. -/
def gridShapeCard : Claim7 := { stood := { row := gridShapeRow, standIns := [], harness := (true, "b7712fc3ea86f8a665b162f485cc9f1bb59863ddac3bac5724dd2593c4097ab7"), looks := false }, kinds := [], alts := [], laidByText := true, laidKinds := [.data, .data, .data, .pinned], laidTests := true, laidLooks := .later }
def GridShapeCardSaid : Prop := Claim7.holds Tryd.pinned (.plain (OpenSpec.ofChange gridShapeSpec)) gridShapeCard

/-- THE TIED CARD OF 'portholelaw21.GridSizes'. -/
def gridSizesCard : Claim7 := { stood := { row := gridSizesRow, standIns := [], harness := (true, "b7712fc3ea86f8a665b162f485cc9f1bb59863ddac3bac5724dd2593c4097ab7"), looks := false }, kinds := [], alts := [], laidByText := true, laidKinds := [.data, .data, .data, .pinned], laidTests := true, laidLooks := .later }
def GridSizesCardSaid : Prop := Claim7.holds Tryd.pinned (.plain (OpenSpec.ofChange gridSizesSpec)) gridSizesCard

/-- THE TIED CARD OF 'portholelaw21.GridKnown'. -/
def gridKnownCard : Claim7 := { stood := { row := gridKnownRow, standIns := [], harness := (true, "b7712fc3ea86f8a665b162f485cc9f1bb59863ddac3bac5724dd2593c4097ab7"), looks := false }, kinds := [], alts := [], laidByText := true, laidKinds := [.data, .pinned], laidTests := true, laidLooks := .later }
def GridKnownCardSaid : Prop := Claim7.holds Tryd.pinned (.plain (OpenSpec.ofChange gridKnownSpec)) gridKnownCard

/-- THE SECOND FORM's CARD OF 'portholelaw21.GridTexts'. -/
def gridTextsUptoCard : Claim7 := { stood := { row := gridTextsUptoRow, standIns := [], harness := (true, "b7712fc3ea86f8a665b162f485cc9f1bb59863ddac3bac5724dd2593c4097ab7"), looks := false }, kinds := [], alts := [], laidByText := true, laidKinds := [.data, .pinned], laidTests := true, laidLooks := .later }
def GridTextsUptoCardSaid : Prop := Claim7.holds Tryd.pinned (.plain (OpenSpec.upto gridTextsSpec)) gridTextsUptoCard

/-- THE SECOND FORM's CARD OF 'portholelaw21.GridPieces'. -/
def gridPiecesUptoCard : Claim7 := { stood := { row := gridPiecesUptoRow, standIns := [], harness := (true, "b7712fc3ea86f8a665b162f485cc9f1bb59863ddac3bac5724dd2593c4097ab7"), looks := false }, kinds := [], alts := [], laidByText := true, laidKinds := [.data, .data, .data, .pinned], laidTests := true, laidLooks := .later }
def GridPiecesUptoCardSaid : Prop := Claim7.holds Tryd.pinned (.plain (OpenSpec.upto gridPiecesSpec)) gridPiecesUptoCard

/-- THE SECOND FORM's CARD OF 'portholelaw21.GridMoves'. -/
def gridMovesUptoCard : Claim7 := { stood := { row := gridMovesUptoRow, standIns := [], harness := (true, "b7712fc3ea86f8a665b162f485cc9f1bb59863ddac3bac5724dd2593c4097ab7"), looks := false }, kinds := [], alts := [], laidByText := true, laidKinds := [.data, .pinned], laidTests := true, laidLooks := .later }
def GridMovesUptoCardSaid : Prop := Claim7.holds Tryd.pinned (.plain (OpenSpec.upto gridMovesSpec)) gridMovesUptoCard

/-- THE SECOND FORM's CARD OF 'portholelaw21.GridErases'. -/
def gridErasesUptoCard : Claim7 := { stood := { row := gridErasesUptoRow, standIns := [], harness := (true, "b7712fc3ea86f8a665b162f485cc9f1bb59863ddac3bac5724dd2593c4097ab7"), looks := false }, kinds := [], alts := [], laidByText := true, laidKinds := [.data, .pinned], laidTests := true, laidLooks := .later }
def GridErasesUptoCardSaid : Prop := Claim7.holds Tryd.pinned (.plain (OpenSpec.upto gridErasesSpec)) gridErasesUptoCard

/-- THE SECOND FORM's CARD OF 'portholelaw21.GridStyles'. -/
def gridStylesUptoCard : Claim7 := { stood := { row := gridStylesUptoRow, standIns := [], harness := (true, "b7712fc3ea86f8a665b162f485cc9f1bb59863ddac3bac5724dd2593c4097ab7"), looks := false }, kinds := [], alts := [], laidByText := true, laidKinds := [.data, .pinned], laidTests := true, laidLooks := .later }
def GridStylesUptoCardSaid : Prop := Claim7.holds Tryd.pinned (.plain (OpenSpec.upto gridStylesSpec)) gridStylesUptoCard

/-- THE SECOND FORM's CARD OF 'portholelaw21.GridAway'. -/
def gridAwayUptoCard : Claim7 := { stood := { row := gridAwayUptoRow, standIns := [], harness := (true, "b7712fc3ea86f8a665b162f485cc9f1bb59863ddac3bac5724dd2593c4097ab7"), looks := false }, kinds := [], alts := [], laidByText := true, laidKinds := [.data, .data, .data, .pinned], laidTests := true, laidLooks := .later }
def GridAwayUptoCardSaid : Prop := Claim7.holds Tryd.pinned (.plain (OpenSpec.upto gridAwaySpec)) gridAwayUptoCard

/-- THE SECOND FORM's CARD OF 'portholelaw21.GridRegion'. -/
def gridRegionUptoCard : Claim7 := { stood := { row := gridRegionUptoRow, standIns := [], harness := (true, "b7712fc3ea86f8a665b162f485cc9f1bb59863ddac3bac5724dd2593c4097ab7"), looks := false }, kinds := [], alts := [], laidByText := true, laidKinds := [.data, .pinned], laidTests := true, laidLooks := .later }
def GridRegionUptoCardSaid : Prop := Claim7.holds Tryd.pinned (.plain (OpenSpec.upto gridRegionSpec)) gridRegionUptoCard

/-- THE SECOND FORM's CARD OF 'portholelaw21.GridWraps'. -/
def gridWrapsUptoCard : Claim7 := { stood := { row := gridWrapsUptoRow, standIns := [], harness := (true, "b7712fc3ea86f8a665b162f485cc9f1bb59863ddac3bac5724dd2593c4097ab7"), looks := false }, kinds := [], alts := [], laidByText := true, laidKinds := [.data, .pinned], laidTests := true, laidLooks := .later }
def GridWrapsUptoCardSaid : Prop := Claim7.holds Tryd.pinned (.plain (OpenSpec.upto gridWrapsSpec)) gridWrapsUptoCard

/-- THE SECOND FORM's CARD OF 'portholelaw21.GridShape'. -/
def gridShapeUptoCard : Claim7 := { stood := { row := gridShapeUptoRow, standIns := [], harness := (true, "b7712fc3ea86f8a665b162f485cc9f1bb59863ddac3bac5724dd2593c4097ab7"), looks := false }, kinds := [], alts := [], laidByText := true, laidKinds := [.data, .data, .data, .pinned], laidTests := true, laidLooks := .later }
def GridShapeUptoCardSaid : Prop := Claim7.holds Tryd.pinned (.plain (OpenSpec.upto gridShapeSpec)) gridShapeUptoCard

/-- THE SECOND FORM's CARD OF 'portholelaw21.GridSizes'. -/
def gridSizesUptoCard : Claim7 := { stood := { row := gridSizesUptoRow, standIns := [], harness := (true, "b7712fc3ea86f8a665b162f485cc9f1bb59863ddac3bac5724dd2593c4097ab7"), looks := false }, kinds := [], alts := [], laidByText := true, laidKinds := [.data, .data, .data, .pinned], laidTests := true, laidLooks := .later }
def GridSizesUptoCardSaid : Prop := Claim7.holds Tryd.pinned (.plain (OpenSpec.upto gridSizesSpec)) gridSizesUptoCard

/-- THE SECOND FORM's CARD OF 'portholelaw21.GridKnown'. -/
def gridKnownUptoCard : Claim7 := { stood := { row := gridKnownUptoRow, standIns := [], harness := (true, "b7712fc3ea86f8a665b162f485cc9f1bb59863ddac3bac5724dd2593c4097ab7"), looks := false }, kinds := [], alts := [], laidByText := true, laidKinds := [.data, .pinned], laidTests := true, laidLooks := .later }
def GridKnownUptoCardSaid : Prop := Claim7.holds Tryd.pinned (.plain (OpenSpec.upto gridKnownSpec)) gridKnownUptoCard
end Rows
end Go.Proofs.YtjmiehbiindjdaaDoor
