/-
  DERIVED. GIVEN WITH THE SEED: THE CARDS: each row of YtkkhljcjjhcnhaaGreatDoorRows.lean that lists a variable, with what it lists TIED to the program's text (the seventh form; the later family's looks); each row that meets fmt, with fmt's text TOLD by the authors' own Lean function (tested against real Go, not proved from fmt's source: count such statements apart). THE CARD IS WHAT COUNTS. Prove the row's statement (the work); the ties are given (YtkkhljcjjhcnhaaGreatDoorTie.lean); close each card by the builder's one call (the guide's Derived/Test/ToyasCard.lean, 'card_holds'). Laid BY PROGRAM, IN A SANDBOX (cutbox-door.mjs). By AI agents, Wed Nov 11 2026. No macro, syntax, notation, axiom, sorry.
-/
import Derived.Test.YtkkhljcjjhcnhaaGreatDoorRows
import GoSem.ClaimSeven
namespace Go.Proofs.YtkkhljcjjhcnhaaGreatDoor
namespace Rows

/-- THE TIED CARD OF 'portholelaw23.MuxNames'. -/
def muxNamesCard : Claim7 := { stood := { row := muxNamesRow, standIns := [], harness := (true, "57ff8370c45c04cbb36b62d241eba8483f2672c7e543b67b0f4a365c01376362"), looks := false }, kinds := [], alts := [], laidByText := true, laidKinds := [.data, .data, .data, .data], laidTests := true, laidLooks := .later }
def MuxNamesCardSaid : Prop := Claim7.holds Tryz.pinned (.plain (OpenSpec.ofChange muxNamesSpec)) muxNamesCard

/-- THE TIED CARD OF 'portholelaw23.MuxWindows'. -/
def muxWindowsCard : Claim7 := { stood := { row := muxWindowsRow, standIns := [], harness := (true, "57ff8370c45c04cbb36b62d241eba8483f2672c7e543b67b0f4a365c01376362"), looks := false }, kinds := [], alts := [], laidByText := true, laidKinds := [.data, .data, .data], laidTests := true, laidLooks := .later }
def MuxWindowsCardSaid : Prop := Claim7.holds Tryz.pinned (.plain (OpenSpec.ofChange muxWindowsSpec)) muxWindowsCard

/-- THE TIED CARD OF 'portholelaw23.MuxBuffers'. -/
def muxBuffersCard : Claim7 := { stood := { row := muxBuffersRow, standIns := [], harness := (true, "57ff8370c45c04cbb36b62d241eba8483f2672c7e543b67b0f4a365c01376362"), looks := false }, kinds := [], alts := [], laidByText := true, laidKinds := [.data, .pinned], laidTests := true, laidLooks := .later }
def MuxBuffersCardSaid : Prop := Claim7.holds Tryz.pinned (.plain (OpenSpec.ofChange muxBuffersSpec)) muxBuffersCard

/-- THE TIED CARD OF 'portholelaw23.MuxApart'. -/
def muxApartCard : Claim7 := { stood := { row := muxApartRow, standIns := [], harness := (true, "57ff8370c45c04cbb36b62d241eba8483f2672c7e543b67b0f4a365c01376362"), looks := false }, kinds := [], alts := [], laidByText := true, laidKinds := [.data, .data, .data, .data, .data, .data, .pinned], laidTests := true, laidLooks := .later }
def MuxApartCardSaid : Prop := Claim7.holds Tryz.pinned (.plain (OpenSpec.ofChange muxApartSpec)) muxApartCard

/-- THE TIED CARD OF 'portholelaw23.MuxZooms'. -/
def muxZoomsCard : Claim7 := { stood := { row := muxZoomsRow, standIns := [], harness := (true, "57ff8370c45c04cbb36b62d241eba8483f2672c7e543b67b0f4a365c01376362"), looks := false }, kinds := [], alts := [], laidByText := true, laidKinds := [.data, .data, .data, .data, .data, .data, .pinned], laidTests := true, laidLooks := .later }
def MuxZoomsCardSaid : Prop := Claim7.holds Tryz.pinned (.plain (OpenSpec.ofChange muxZoomsSpec)) muxZoomsCard

/-- THE TIED CARD OF 'portholelaw23.MuxKnown'. -/
def muxKnownCard : Claim7 := { stood := { row := muxKnownRow, standIns := [], harness := (true, "57ff8370c45c04cbb36b62d241eba8483f2672c7e543b67b0f4a365c01376362"), looks := false }, kinds := [], alts := [], laidByText := true, laidKinds := [.data, .data, .data, .data, .pinned], laidTests := true, laidLooks := .later }
def MuxKnownCardSaid : Prop := Claim7.holds Tryz.pinned (.plain (OpenSpec.ofChange muxKnownSpec)) muxKnownCard

/-- THE SECOND FORM's CARD OF 'portholelaw23.MuxNames'. -/
def muxNamesUptoCard : Claim7 := { stood := { row := muxNamesUptoRow, standIns := [], harness := (true, "57ff8370c45c04cbb36b62d241eba8483f2672c7e543b67b0f4a365c01376362"), looks := false }, kinds := [], alts := [], laidByText := true, laidKinds := [.data, .data, .data, .data], laidTests := true, laidLooks := .later }
def MuxNamesUptoCardSaid : Prop := Claim7.holds Tryz.pinned (.plain (OpenSpec.upto muxNamesSpec)) muxNamesUptoCard

/-- THE SECOND FORM's CARD OF 'portholelaw23.MuxWindows'. -/
def muxWindowsUptoCard : Claim7 := { stood := { row := muxWindowsUptoRow, standIns := [], harness := (true, "57ff8370c45c04cbb36b62d241eba8483f2672c7e543b67b0f4a365c01376362"), looks := false }, kinds := [], alts := [], laidByText := true, laidKinds := [.data, .data, .data], laidTests := true, laidLooks := .later }
def MuxWindowsUptoCardSaid : Prop := Claim7.holds Tryz.pinned (.plain (OpenSpec.upto muxWindowsSpec)) muxWindowsUptoCard

/-- THE SECOND FORM's CARD OF 'portholelaw23.MuxBuffers'. -/
def muxBuffersUptoCard : Claim7 := { stood := { row := muxBuffersUptoRow, standIns := [], harness := (true, "57ff8370c45c04cbb36b62d241eba8483f2672c7e543b67b0f4a365c01376362"), looks := false }, kinds := [], alts := [], laidByText := true, laidKinds := [.data, .pinned], laidTests := true, laidLooks := .later }
def MuxBuffersUptoCardSaid : Prop := Claim7.holds Tryz.pinned (.plain (OpenSpec.upto muxBuffersSpec)) muxBuffersUptoCard

/-- THE SECOND FORM's CARD OF 'portholelaw23.MuxApart'. -/
def muxApartUptoCard : Claim7 := { stood := { row := muxApartUptoRow, standIns := [], harness := (true, "57ff8370c45c04cbb36b62d241eba8483f2672c7e543b67b0f4a365c01376362"), looks := false }, kinds := [], alts := [], laidByText := true, laidKinds := [.data, .data, .data, .data, .data, .data, .pinned], laidTests := true, laidLooks := .later }
def MuxApartUptoCardSaid : Prop := Claim7.holds Tryz.pinned (.plain (OpenSpec.upto muxApartSpec)) muxApartUptoCard

/-- THE SECOND FORM's CARD OF 'portholelaw23.MuxZooms'. -/
def muxZoomsUptoCard : Claim7 := { stood := { row := muxZoomsUptoRow, standIns := [], harness := (true, "57ff8370c45c04cbb36b62d241eba8483f2672c7e543b67b0f4a365c01376362"), looks := false }, kinds := [], alts := [], laidByText := true, laidKinds := [.data, .data, .data, .data, .data, .data, .pinned], laidTests := true, laidLooks := .later }
def MuxZoomsUptoCardSaid : Prop := Claim7.holds Tryz.pinned (.plain (OpenSpec.upto muxZoomsSpec)) muxZoomsUptoCard

/-- THE SECOND FORM's CARD OF 'portholelaw23.MuxKnown'. -/
def muxKnownUptoCard : Claim7 := { stood := { row := muxKnownUptoRow, standIns := [], harness := (true, "57ff8370c45c04cbb36b62d241eba8483f2672c7e543b67b0f4a365c01376362"), looks := false }, kinds := [], alts := [], laidByText := true, laidKinds := [.data, .data, .data, .data, .pinned], laidTests := true, laidLooks := .later }
def MuxKnownUptoCardSaid : Prop := Claim7.holds Tryz.pinned (.plain (OpenSpec.upto muxKnownSpec)) muxKnownUptoCard
end Rows
end Go.Proofs.YtkkhljcjjhcnhaaGreatDoor
