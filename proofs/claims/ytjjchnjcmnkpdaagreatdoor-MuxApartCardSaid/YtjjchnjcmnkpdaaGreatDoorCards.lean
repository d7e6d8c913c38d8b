/-
  DERIVED. GIVEN WITH THE SEED: THE CARDS: each row of YtjjchnjcmnkpdaaGreatDoorRows.lean that lists a variable, with what it lists TIED to the program's text (the seventh form; the later family's looks); each row that meets fmt, with fmt's text TOLD by the authors' own Lean function (tested against real Go, not proved from fmt's source: count such statements apart). THE CARD IS WHAT COUNTS. Prove the row's statement (the work); the ties are given (YtjjchnjcmnkpdaaGreatDoorTie.lean); close each card by the builder's one call (the guide's Derived/Test/ToyasCard.lean, 'card_holds'). Laid BY PROGRAM, IN A SANDBOX (cutbox-door.mjs). By AI agents, Wed Nov 11 2026. No macro, syntax, notation, axiom, sorry.
-/
import Derived.Test.YtjjchnjcmnkpdaaGreatDoorRows
import GoSem.ClaimSeven
namespace Go.Proofs.YtjjchnjcmnkpdaaGreatDoor
namespace Rows

/-- THE TIED CARD OF 'portholelaw23.MuxApart'. -/
def muxApartCard : Claim7 := { stood := { row := muxApartRow, standIns := [], harness := (true, "d9226417545631fb4eef161c08192f39dd3ac29df4b6514f39938cceded7972d"), looks := true }, kinds := [], alts := [], laidByText := true, laidKinds := [.data, .data, .data, .data, .data, .data, .pinned], laidTests := true, laidLooks := .later }
def MuxApartCardSaid : Prop := Claim7.holds Tryz.pinned (.plain (OpenSpec.ofChange muxApartSpec)) muxApartCard

/-- THE TIED CARD OF 'portholelaw23.MuxZooms'. -/
def muxZoomsCard : Claim7 := { stood := { row := muxZoomsRow, standIns := [], harness := (true, "d9226417545631fb4eef161c08192f39dd3ac29df4b6514f39938cceded7972d"), looks := true }, kinds := [], alts := [], laidByText := true, laidKinds := [.data, .data, .data, .data, .data, .data, .pinned], laidTests := true, laidLooks := .later }
def MuxZoomsCardSaid : Prop := Claim7.holds Tryz.pinned (.plain (OpenSpec.ofChange muxZoomsSpec)) muxZoomsCard

/-- THE TIED CARD OF 'portholelaw24.CmdSessions'. -/
def cmdSessionsCard : Claim7 := { stood := { row := cmdSessionsRow, standIns := [], harness := (true, "d9226417545631fb4eef161c08192f39dd3ac29df4b6514f39938cceded7972d"), looks := true }, kinds := [], alts := [], laidByText := true, laidKinds := [.data, .data, .data, .data, .sentinel, .sentinel, .pinned], laidTests := true, laidLooks := .later }
def CmdSessionsCardSaid : Prop := Claim7.holds Tryz.pinned (.plain (OpenSpec.ofChange cmdSessionsSpec)) cmdSessionsCard

/-- THE TIED CARD OF 'portholelaw24.CmdRuns'. -/
def cmdRunsCard : Claim7 := { stood := { row := cmdRunsRow, standIns := [], harness := (true, "d9226417545631fb4eef161c08192f39dd3ac29df4b6514f39938cceded7972d"), looks := true }, kinds := [], alts := [], laidByText := true, laidKinds := [.data, .data, .data, .data, .sentinel, .sentinel, .pinned], laidTests := true, laidLooks := .later }
def CmdRunsCardSaid : Prop := Claim7.holds Tryz.pinned (.plain (OpenSpec.ofChange cmdRunsSpec)) cmdRunsCard

/-- THE SECOND FORM's CARD OF 'portholelaw23.MuxApart'. -/
def muxApartUptoCard : Claim7 := { stood := { row := muxApartUptoRow, standIns := [], harness := (true, "d9226417545631fb4eef161c08192f39dd3ac29df4b6514f39938cceded7972d"), looks := true }, kinds := [], alts := [], laidByText := true, laidKinds := [.data, .data, .data, .data, .data, .data, .pinned], laidTests := true, laidLooks := .later }
def MuxApartUptoCardSaid : Prop := Claim7.holds Tryz.pinned (.plain (OpenSpec.upto muxApartSpec)) muxApartUptoCard

/-- THE SECOND FORM's CARD OF 'portholelaw23.MuxZooms'. -/
def muxZoomsUptoCard : Claim7 := { stood := { row := muxZoomsUptoRow, standIns := [], harness := (true, "d9226417545631fb4eef161c08192f39dd3ac29df4b6514f39938cceded7972d"), looks := true }, kinds := [], alts := [], laidByText := true, laidKinds := [.data, .data, .data, .data, .data, .data, .pinned], laidTests := true, laidLooks := .later }
def MuxZoomsUptoCardSaid : Prop := Claim7.holds Tryz.pinned (.plain (OpenSpec.upto muxZoomsSpec)) muxZoomsUptoCard

/-- THE SECOND FORM's CARD OF 'portholelaw24.CmdSessions'. -/
def cmdSessionsUptoCard : Claim7 := { stood := { row := cmdSessionsUptoRow, standIns := [], harness := (true, "d9226417545631fb4eef161c08192f39dd3ac29df4b6514f39938cceded7972d"), looks := true }, kinds := [], alts := [], laidByText := true, laidKinds := [.data, .data, .data, .data, .sentinel, .sentinel, .pinned], laidTests := true, laidLooks := .later }
def CmdSessionsUptoCardSaid : Prop := Claim7.holds Tryz.pinned (.plain (OpenSpec.upto cmdSessionsSpec)) cmdSessionsUptoCard

/-- THE SECOND FORM's CARD OF 'portholelaw24.CmdRuns'. -/
def cmdRunsUptoCard : Claim7 := { stood := { row := cmdRunsUptoRow, standIns := [], harness := (true, "d9226417545631fb4eef161c08192f39dd3ac29df4b6514f39938cceded7972d"), looks := true }, kinds := [], alts := [], laidByText := true, laidKinds := [.data, .data, .data, .data, .sentinel, .sentinel, .pinned], laidTests := true, laidLooks := .later }
def CmdRunsUptoCardSaid : Prop := Claim7.holds Tryz.pinned (.plain (OpenSpec.upto cmdRunsSpec)) cmdRunsUptoCard
end Rows
end Go.Proofs.YtjjchnjcmnkpdaaGreatDoor
