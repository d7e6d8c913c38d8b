/-
  DERIVED. GIVEN WITH THE SEED: THE CARDS: each row of YthphbdkhbaijlaaDoorRows.lean that lists a variable, with what it lists TIED to the program's text (the seventh form; the later family's looks); each row that meets fmt, with fmt's text TOLD by the authors' own Lean function (tested against real Go, not proved from fmt's source: count such statements apart). THE CARD IS WHAT COUNTS. Prove the row's statement (the work); the ties are given (YthphbdkhbaijlaaDoorTie.lean); close each card by the builder's one call (the guide's Derived/Test/ToyasCard.lean, 'card_holds'). Laid BY PROGRAM, IN A SANDBOX (cutbox-door.mjs). By AI agents, Wed Nov 11 2026. No macro, syntax, notation, axiom, sorry.
-/
import Derived.Test.YthphbdkhbaijlaaDoorRows
import GoSem.ClaimSeven
namespace Go.Proofs.YthphbdkhbaijlaaDoor
namespace Rows

/-- THE TIED CARD OF 'portholelaw17.KeysMatch'. -/
def keysMatchCard : Claim7 := { stood := { row := keysMatchRow, standIns := [], harness := (true, "439574f0e5fc0de98a8f98f21e2f1a30a31dcc8f68da88a109974514bf4b3bcf"), looks := false }, kinds := [], alts := [], laidByText := true, laidKinds := [.data, .pinned], laidTests := true, laidLooks := .later }
def KeysMatchCardSaid : Prop := Claim7.holds Tryd.pinned (.plain (OpenSpec.ofChange keysMatchSpec)) keysMatchCard

/-- THE TIED CARD OF 'portholelaw17.KeysStars'. -/
def keysStarsCard : Claim7 := { stood := { row := keysStarsRow, standIns := [], harness := (true, "439574f0e5fc0de98a8f98f21e2f1a30a31dcc8f68da88a109974514bf4b3bcf"), looks := false }, kinds := [], alts := [], laidByText := true, laidKinds := [.data, .pinned], laidTests := true, laidLooks := .later }
def KeysStarsCardSaid : Prop := Claim7.holds Tryd.pinned (.plain (OpenSpec.ofChange keysStarsSpec)) keysStarsCard

/-- THE TIED CARD OF 'portholelaw17.KeysAllows'. -/
def keysAllowsCard : Claim7 := { stood := { row := keysAllowsRow, standIns := [], harness := (true, "439574f0e5fc0de98a8f98f21e2f1a30a31dcc8f68da88a109974514bf4b3bcf"), looks := false }, kinds := [], alts := [], laidByText := true, laidKinds := [.data, .data, .data, .pinned], laidTests := true, laidLooks := .later }
def KeysAllowsCardSaid : Prop := Claim7.holds Tryd.pinned (.plain (OpenSpec.ofChange keysAllowsSpec)) keysAllowsCard

/-- THE TIED CARD OF 'portholelaw17.KeysFinds'. -/
def keysFindsCard : Claim7 := { stood := { row := keysFindsRow, standIns := [], harness := (true, "439574f0e5fc0de98a8f98f21e2f1a30a31dcc8f68da88a109974514bf4b3bcf"), looks := false }, kinds := [], alts := [], laidByText := true, laidKinds := [.data, .data, .data, .pinned], laidTests := true, laidLooks := .later }
def KeysFindsCardSaid : Prop := Claim7.holds Tryd.pinned (.plain (OpenSpec.ofChange keysFindsSpec)) keysFindsCard

/-- THE TIED CARD OF 'portholelaw17.KeysPrints'. -/
def keysPrintsCard : Claim7 := { stood := { row := keysPrintsRow, standIns := [], harness := (true, "439574f0e5fc0de98a8f98f21e2f1a30a31dcc8f68da88a109974514bf4b3bcf"), looks := false }, kinds := [], alts := [], laidByText := true, laidKinds := [.data, .data, .data, .pinned], laidTests := true, laidLooks := .later }
def KeysPrintsCardSaid : Prop := Claim7.holds Tryd.pinned (.plain (OpenSpec.ofChange keysPrintsSpec)) keysPrintsCard

/-- THE TIED CARD OF 'portholelaw17.KeysParses'. -/
def keysParsesCard : Claim7 := { stood := { row := keysParsesRow, standIns := [], harness := (true, "439574f0e5fc0de98a8f98f21e2f1a30a31dcc8f68da88a109974514bf4b3bcf"), looks := false }, kinds := [], alts := [], laidByText := true, laidKinds := [.data, .data, .data, .pinned], laidTests := true, laidLooks := .later }
def KeysParsesCardSaid : Prop := Claim7.holds Tryd.pinned (.plain (OpenSpec.ofChange keysParsesSpec)) keysParsesCard

/-- THE TIED CARD OF 'portholelaw17.KeysBack'. -/
def keysBackCard : Claim7 := { stood := { row := keysBackRow, standIns := [], harness := (true, "439574f0e5fc0de98a8f98f21e2f1a30a31dcc8f68da88a109974514bf4b3bcf"), looks := false }, kinds := [], alts := [], laidByText := true, laidKinds := [.data, .data, .data, .pinned], laidTests := true, laidLooks := .later }
def KeysBackCardSaid : Prop := Claim7.holds Tryd.pinned (.plain (OpenSpec.ofChange keysBackSpec)) keysBackCard

/-- THE TIED CARD OF 'portholelaw17.KeysLines'. -/
def keysLinesCard : Claim7 := { stood := { row := keysLinesRow, standIns := [], harness := (true, "439574f0e5fc0de98a8f98f21e2f1a30a31dcc8f68da88a109974514bf4b3bcf"), looks := false }, kinds := [], alts := [], laidByText := true, laidKinds := [.data, .data, .data, .pinned], laidTests := true, laidLooks := .later }
def KeysLinesCardSaid : Prop := Claim7.holds Tryd.pinned (.plain (OpenSpec.ofChange keysLinesSpec)) keysLinesCard

/-- THE TIED CARD OF 'portholelaw17.KeysKnown'. -/
def keysKnownCard : Claim7 := { stood := { row := keysKnownRow, standIns := [], harness := (true, "439574f0e5fc0de98a8f98f21e2f1a30a31dcc8f68da88a109974514bf4b3bcf"), looks := false }, kinds := [], alts := [], laidByText := true, laidKinds := [.data, .pinned], laidTests := true, laidLooks := .later }
def KeysKnownCardSaid : Prop := Claim7.holds Tryd.pinned (.plain (OpenSpec.ofChange keysKnownSpec)) keysKnownCard

/-- THE SECOND FORM's CARD OF 'portholelaw17.KeysMatch'. -/
def keysMatchUptoCard : Claim7 := { stood := { row := keysMatchUptoRow, standIns := [], harness := (true, "439574f0e5fc0de98a8f98f21e2f1a30a31dcc8f68da88a109974514bf4b3bcf"), looks := false }, kinds := [], alts := [], laidByText := true, laidKinds := [.data, .pinned], laidTests := true, laidLooks := .later }
def KeysMatchUptoCardSaid : Prop := Claim7.holds Tryd.pinned (.plain (OpenSpec.upto keysMatchSpec)) keysMatchUptoCard

/-- THE SECOND FORM's CARD OF 'portholelaw17.KeysStars'. -/
def keysStarsUptoCard : Claim7 := { stood := { row := keysStarsUptoRow, standIns := [], harness := (true, "439574f0e5fc0de98a8f98f21e2f1a30a31dcc8f68da88a109974514bf4b3bcf"), looks := false }, kinds := [], alts := [], laidByText := true, laidKinds := [.data, .pinned], laidTests := true, laidLooks := .later }
def KeysStarsUptoCardSaid : Prop := Claim7.holds Tryd.pinned (.plain (OpenSpec.upto keysStarsSpec)) keysStarsUptoCard

/-- THE SECOND FORM's CARD OF 'portholelaw17.KeysAllows'. -/
def keysAllowsUptoCard : Claim7 := { stood := { row := keysAllowsUptoRow, standIns := [], harness := (true, "439574f0e5fc0de98a8f98f21e2f1a30a31dcc8f68da88a109974514bf4b3bcf"), looks := false }, kinds := [], alts := [], laidByText := true, laidKinds := [.data, .data, .data, .pinned], laidTests := true, laidLooks := .later }
def KeysAllowsUptoCardSaid : Prop := Claim7.holds Tryd.pinned (.plain (OpenSpec.upto keysAllowsSpec)) keysAllowsUptoCard

/-- THE SECOND FORM's CARD OF 'portholelaw17.KeysFinds'. -/
def keysFindsUptoCard : Claim7 := { stood := { row := keysFindsUptoRow, standIns := [], harness := (true, "439574f0e5fc0de98a8f98f21e2f1a30a31dcc8f68da88a109974514bf4b3bcf"), looks := false }, kinds := [], alts := [], laidByText := true, laidKinds := [.data, .data, .data, .pinned], laidTests := true, laidLooks := .later }
def KeysFindsUptoCardSaid : Prop := Claim7.holds Tryd.pinned (.plain (OpenSpec.upto keysFindsSpec)) keysFindsUptoCard

/-- THE SECOND FORM's CARD OF 'portholelaw17.KeysPrints'. -/
def keysPrintsUptoCard : Claim7 := { stood := { row := keysPrintsUptoRow, standIns := [], harness := (true, "439574f0e5fc0de98a8f98f21e2f1a30a31dcc8f68da88a109974514bf4b3bcf"), looks := false }, kinds := [], alts := [], laidByText := true, laidKinds := [.data, .data, .data, .pinned], laidTests := true, laidLooks := .later }
def KeysPrintsUptoCardSaid : Prop := Claim7.holds Tryd.pinned (.plain (OpenSpec.upto keysPrintsSpec)) keysPrintsUptoCard

/-- THE SECOND FORM's CARD OF 'portholelaw17.KeysParses'. -/
def keysParsesUptoCard : Claim7 := { stood := { row := keysParsesUptoRow, standIns := [], harness := (true, "439574f0e5fc0de98a8f98f21e2f1a30a31dcc8f68da88a109974514bf4b3bcf"), looks := false }, kinds := [], alts := [], laidByText := true, laidKinds := [.data, .data, .data, .pinned], laidTests := true, laidLooks := .later }
def KeysParsesUptoCardSaid : Prop := Claim7.holds Tryd.pinned (.plain (OpenSpec.upto keysParsesSpec)) keysParsesUptoCard

/-- THE SECOND FORM's CARD OF 'portholelaw17.KeysBack'. -/
def keysBackUptoCard : Claim7 := { stood := { row := keysBackUptoRow, standIns := [], harness := (true, "439574f0e5fc0de98a8f98f21e2f1a30a31dcc8f68da88a109974514bf4b3bcf"), looks := false }, kinds := [], alts := [], laidByText := true, laidKinds := [.data, .data, .data, .pinned], laidTests := true, laidLooks := .later }
def KeysBackUptoCardSaid : Prop := Claim7.holds Tryd.pinned (.plain (OpenSpec.upto keysBackSpec)) keysBackUptoCard

/-- THE SECOND FORM's CARD OF 'portholelaw17.KeysLines'. -/
def keysLinesUptoCard : Claim7 := { stood := { row := keysLinesUptoRow, standIns := [], harness := (true, "439574f0e5fc0de98a8f98f21e2f1a30a31dcc8f68da88a109974514bf4b3bcf"), looks := false }, kinds := [], alts := [], laidByText := true, laidKinds := [.data, .data, .data, .pinned], laidTests := true, laidLooks := .later }
def KeysLinesUptoCardSaid : Prop := Claim7.holds Tryd.pinned (.plain (OpenSpec.upto keysLinesSpec)) keysLinesUptoCard

/-- THE SECOND FORM's CARD OF 'portholelaw17.KeysKnown'. -/
def keysKnownUptoCard : Claim7 := { stood := { row := keysKnownUptoRow, standIns := [], harness := (true, "439574f0e5fc0de98a8f98f21e2f1a30a31dcc8f68da88a109974514bf4b3bcf"), looks := false }, kinds := [], alts := [], laidByText := true, laidKinds := [.data, .pinned], laidTests := true, laidLooks := .later }
def KeysKnownUptoCardSaid : Prop := Claim7.holds Tryd.pinned (.plain (OpenSpec.upto keysKnownSpec)) keysKnownUptoCard
end Rows
end Go.Proofs.YthphbdkhbaijlaaDoor
