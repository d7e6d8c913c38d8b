/-
  DERIVED. GIVEN WITH THE SEED: THE CARDS: each row of YtnpmlgibjhjiiaaDoorRows.lean that lists a variable, with what it lists TIED to the program's text (the seventh form; the later family's looks); each row that meets fmt, with fmt's text TOLD by the authors' own Lean function (tested against real Go, not proved from fmt's source: count such statements apart). THE CARD IS WHAT COUNTS. Prove the row's statement (the work); the ties are given (YtnpmlgibjhjiiaaDoorTie.lean); close each card by the builder's one call (the guide's Derived/Test/ToyasCard.lean, 'card_holds'). Laid BY PROGRAM, IN A SANDBOX (cutbox-door.mjs). By AI agents, Wed Nov 11 2026. No macro, syntax, notation, axiom, sorry.
-/
import Derived.Test.YtnpmlgibjhjiiaaDoorRows
import GoSem.ClaimSeven
namespace Go.Proofs.YtnpmlgibjhjiiaaDoor
namespace Rows

/-- THE TIED CARD OF 'portholelaw24.CmdPlain'. -/
def cmdPlainCard : Claim7 := { stood := { row := cmdPlainRow, standIns := [], harness := (true, "4028f00473bb3784a01e39192bb1991d9f8553b7fd41caef537cd2c057367191"), looks := true }, kinds := [], alts := [], laidByText := true, laidKinds := [.data, .data, .data, .sentinel, .sentinel], laidTests := true, laidLooks := .later }
def CmdPlainCardSaid : Prop := Claim7.holds Tryd.pinned (.plain (OpenSpec.ofChange cmdPlainSpec)) cmdPlainCard

/-- THE TIED CARD OF 'portholelaw24.CmdPrints'. -/
def cmdPrintsCard : Claim7 := { stood := { row := cmdPrintsRow, standIns := [], harness := (true, "4028f00473bb3784a01e39192bb1991d9f8553b7fd41caef537cd2c057367191"), looks := true }, kinds := [], alts := [], laidByText := true, laidKinds := [.data, .data, .data, .sentinel, .sentinel], laidTests := true, laidLooks := .later }
def CmdPrintsCardSaid : Prop := Claim7.holds Tryd.pinned (.plain (OpenSpec.ofChange cmdPrintsSpec)) cmdPrintsCard

/-- THE TIED CARD OF 'portholelaw24.CmdKnown'. -/
def cmdKnownCard : Claim7 := { stood := { row := cmdKnownRow, standIns := [], harness := (true, "4028f00473bb3784a01e39192bb1991d9f8553b7fd41caef537cd2c057367191"), looks := true }, kinds := [], alts := [], laidByText := true, laidKinds := [.data, .data, .data, .sentinel, .sentinel], laidTests := true, laidLooks := .later }
def CmdKnownCardSaid : Prop := Claim7.holds Tryd.pinned (.plain (OpenSpec.ofChange cmdKnownSpec)) cmdKnownCard

/-- THE SECOND FORM's CARD OF 'portholelaw24.CmdPlain'. -/
def cmdPlainUptoCard : Claim7 := { stood := { row := cmdPlainUptoRow, standIns := [], harness := (true, "4028f00473bb3784a01e39192bb1991d9f8553b7fd41caef537cd2c057367191"), looks := true }, kinds := [], alts := [], laidByText := true, laidKinds := [.data, .data, .data, .sentinel, .sentinel], laidTests := true, laidLooks := .later }
def CmdPlainUptoCardSaid : Prop := Claim7.holds Tryd.pinned (.plain (OpenSpec.upto cmdPlainSpec)) cmdPlainUptoCard

/-- THE SECOND FORM's CARD OF 'portholelaw24.CmdPrints'. -/
def cmdPrintsUptoCard : Claim7 := { stood := { row := cmdPrintsUptoRow, standIns := [], harness := (true, "4028f00473bb3784a01e39192bb1991d9f8553b7fd41caef537cd2c057367191"), looks := true }, kinds := [], alts := [], laidByText := true, laidKinds := [.data, .data, .data, .sentinel, .sentinel], laidTests := true, laidLooks := .later }
def CmdPrintsUptoCardSaid : Prop := Claim7.holds Tryd.pinned (.plain (OpenSpec.upto cmdPrintsSpec)) cmdPrintsUptoCard

/-- THE SECOND FORM's CARD OF 'portholelaw24.CmdKnown'. -/
def cmdKnownUptoCard : Claim7 := { stood := { row := cmdKnownUptoRow, standIns := [], harness := (true, "4028f00473bb3784a01e39192bb1991d9f8553b7fd41caef537cd2c057367191"), looks := true }, kinds := [], alts := [], laidByText := true, laidKinds := [.data, .data, .data, .sentinel, .sentinel], laidTests := true, laidLooks := .later }
def CmdKnownUptoCardSaid : Prop := Claim7.holds Tryd.pinned (.plain (OpenSpec.upto cmdKnownSpec)) cmdKnownUptoCard
end Rows
end Go.Proofs.YtnpmlgibjhjiiaaDoor
