/-
  No cell of these rows narrows 'for every input' (looked for: loops, veiled, ifaces, maps, wideKeys, modest, calm, conditions, laid).
  DERIVED. THE GIVEN ROWS OF THIS SEAT. 4 by the template 'for every input the law returns true; each argument reads behind the call as it read before'; 0 by the template 'total and deterministic' (their statements: YtnpmlgibjhjiiaaTotals.lean).
  GIVEN WITH THE SEED: the statements are not yours to turn. If you find one false, say at which input.
  Laid BY PROGRAM, IN A SANDBOX (cutbox-rows.mjs): the forced cells as the released guide's own fill.sh prints them over the translation ed9d9f5c816e4696… (all of the seat's roots in one cut). By AI agents, Wed Nov 11 2026. No macro, syntax, notation, axiom, sorry.
-/
import Derived.Test.YtnpmlgibjhjiiaaChecked
import GoSem.Claim
import GoSem.ClaimJoined
import GoSem.ClaimMapViews
import Derived.JoinedTies
import Derived.KernelRfl
namespace Go.Proofs.Ytnpmlgibjhjiiaa
/- THE CELL 'sum', in the pinned program and in every row, IS THE sha256 OF THE DUMP (.gsa) THAT YtnpmlgibjhjiiaaProg.lean LOADS. Nothing in Lean hashes anything: it is a label: what it is worth is what the hold of that sum in a sandbox is worth. -/
noncomputable def Try.pinned : Pinned := { name := "ytnpmlgibjhjiiaa", sum := "ed9d9f5c816e469666238d9d5016a23676c2d5525028837f73f797beb390b4ae", checked := Try.checked }
namespace Rows
def none {H : Type} : Left H := { results := [], args := [] }

/-- 'portholelaw24.CmdParses': WHATEVER THE INPUT: true; the input reads as it did. -/
def cmdParsesSpec : ChangeSpec := { name := "cmdParses", fn := fun _ => fun
  | [d1, d2, d3] => { results := [.lit (.bool true)], args := [d1, d2, d3] }
  | _ => none }
def cmdParsesRow : OpenClaim := { program := "ytnpmlgibjhjiiaa", sum := "ed9d9f5c816e469666238d9d5016a23676c2d5525028837f73f797beb390b4ae", func := "porthole/portholelaw24.CmdParses", spec := "cmdParses", apart := false }
def CmdParsesSaid : Prop := cmdParsesRow.holds Try.pinned (OpenSpec.ofChange cmdParsesSpec)

/-- ITS FALSE NEIGHBOUR: 'it returns false'. Refute it at one input. -/
def cmdParsesWrong : ChangeSpec := { name := "cmdParses", fn := fun _ => fun
  | [d1, d2, d3] => { results := [.lit (.bool false)], args := [d1, d2, d3] }
  | _ => none }
def CmdParsesWrongFalsely : Prop := cmdParsesRow.holds Try.pinned (OpenSpec.ofChange cmdParsesWrong)

/-- 'portholelaw24.CmdKeys': WHATEVER THE INPUT: true; the input reads as it did. -/
def cmdKeysSpec : ChangeSpec := { name := "cmdKeys", fn := fun _ => fun
  | [d1, d2, d3, d4] => { results := [.lit (.bool true)], args := [d1, d2, d3, d4] }
  | _ => none }
def cmdKeysRow : OpenClaim := { program := "ytnpmlgibjhjiiaa", sum := "ed9d9f5c816e469666238d9d5016a23676c2d5525028837f73f797beb390b4ae", func := "porthole/portholelaw24.CmdKeys", spec := "cmdKeys", unfollowed := true, recurses := true, apart := false }
def CmdKeysSaid : Prop := cmdKeysRow.holds Try.pinned (OpenSpec.ofChange cmdKeysSpec)

/-- ITS FALSE NEIGHBOUR: 'it returns false'. Refute it at one input. -/
def cmdKeysWrong : ChangeSpec := { name := "cmdKeys", fn := fun _ => fun
  | [d1, d2, d3, d4] => { results := [.lit (.bool false)], args := [d1, d2, d3, d4] }
  | _ => none }
def CmdKeysWrongFalsely : Prop := cmdKeysRow.holds Try.pinned (OpenSpec.ofChange cmdKeysWrong)

/-- 'portholelaw24.CmdBack': WHATEVER THE INPUT: true; the input reads as it did. -/
def cmdBackSpec : ChangeSpec := { name := "cmdBack", fn := fun _ => fun
  | [d] => { results := [.lit (.bool true)], args := [d] }
  | _ => none }
def cmdBackRow : OpenClaim := { program := "ytnpmlgibjhjiiaa", sum := "ed9d9f5c816e469666238d9d5016a23676c2d5525028837f73f797beb390b4ae", func := "porthole/portholelaw24.CmdBack", spec := "cmdBack", inPlace := ["internal/abi.NoEscape", "internal/bytealg.MakeNoZero"], recurses := true, apart := false }
def CmdBackSaid : Prop := cmdBackRow.holds Try.pinned (OpenSpec.ofChange cmdBackSpec)

/-- ITS FALSE NEIGHBOUR: 'it returns false'. Refute it at one input. -/
def cmdBackWrong : ChangeSpec := { name := "cmdBack", fn := fun _ => fun
  | [d] => { results := [.lit (.bool false)], args := [d] }
  | _ => none }
def CmdBackWrongFalsely : Prop := cmdBackRow.holds Try.pinned (OpenSpec.ofChange cmdBackWrong)

/-- 'portholelaw24.CmdParts': WHATEVER THE INPUT: true; the input reads as it did. -/
def cmdPartsSpec : ChangeSpec := { name := "cmdParts", fn := fun _ => fun
  | [d1, d2, d3] => { results := [.lit (.bool true)], args := [d1, d2, d3] }
  | _ => none }
def cmdPartsRow : OpenClaim := { program := "ytnpmlgibjhjiiaa", sum := "ed9d9f5c816e469666238d9d5016a23676c2d5525028837f73f797beb390b4ae", func := "porthole/portholelaw24.CmdParts", spec := "cmdParts", inPlace := ["internal/abi.NoEscape", "internal/bytealg.MakeNoZero"], recurses := true, apart := false }
def CmdPartsSaid : Prop := cmdPartsRow.holds Try.pinned (OpenSpec.ofChange cmdPartsSpec)

/-- ITS FALSE NEIGHBOUR: 'it returns false'. Refute it at one input. -/
def cmdPartsWrong : ChangeSpec := { name := "cmdParts", fn := fun _ => fun
  | [d1, d2, d3] => { results := [.lit (.bool false)], args := [d1, d2, d3] }
  | _ => none }
def CmdPartsWrongFalsely : Prop := cmdPartsRow.holds Try.pinned (OpenSpec.ofChange cmdPartsWrong)

/- THE SECOND FORM. 'bulk': how many values and letters a reading holds, each counted each time it is reached (what is shared counts as often as it is met; a slice's spare places count too). A statement '..UptoSaid' is the law's where the arguments, and the package variables that the reading takes, are together of bulk at most 1048576: NARROWER than '..Said'. Prove '..Said' where nothing that the law and all that it calls make is longer than what came in: it says more and counts as full. Else prove '..UptoSaid'. A law counts once. -/
mutual
def uptoBulk {H : Type} : DataW H → Nat
  | .lit (.string bytes) => bytes.length + 1
  | .lit _ => 1
  | .nil => 1
  | .ptr d => uptoBulk d + 1
  | .slice elems spare => uptoBulkAll elems + uptoBulkAll spare + 1
  | .agg parts => uptoBulkAll parts + 1
  | .iface _ d => uptoBulk d + 1
  | .map entries => uptoBulkEntries entries + 1
  | .held _ => 1
def uptoBulkAll {H : Type} : List (DataW H) → Nat
  | [] => 0
  | d :: r => uptoBulk d + uptoBulkAll r
def uptoBulkEntries {H : Type} : List (Lit × DataW H) → Nat
  | [] => 0
  | x :: r => uptoBulkEntry x + uptoBulkEntries r
def uptoBulkEntry {H : Type} : Lit × DataW H → Nat
  | (.string bytes, d) => bytes.length + uptoBulk d + 1
  | (_, d) => uptoBulk d + 1
 end
def uptoSmall : (H : Type) → List (DataW H) → Bool := fun _ ds => decide (uptoBulkAll ds ≤ 1048576)
def OpenSpec.upto (s : _root_.Go.ChangeSpec) : _root_.Go.OpenSpec := { _root_.Go.OpenSpec.ofChange s with cond := some uptoSmall }

/-- 'portholelaw24.CmdParses', WHERE WHAT IT READS IS OF BULK AT MOST 1048576: true; the input reads as it did. -/
def cmdParsesUptoRow : OpenClaim := { program := "ytnpmlgibjhjiiaa", sum := "ed9d9f5c816e469666238d9d5016a23676c2d5525028837f73f797beb390b4ae", func := "porthole/portholelaw24.CmdParses", spec := "cmdParses", apart := false, narrowed := true }
def CmdParsesUptoSaid : Prop := cmdParsesUptoRow.holds Try.pinned (OpenSpec.upto cmdParsesSpec)

/-- 'portholelaw24.CmdKeys', WHERE WHAT IT READS IS OF BULK AT MOST 1048576: true; the input reads as it did. -/
def cmdKeysUptoRow : OpenClaim := { program := "ytnpmlgibjhjiiaa", sum := "ed9d9f5c816e469666238d9d5016a23676c2d5525028837f73f797beb390b4ae", func := "porthole/portholelaw24.CmdKeys", spec := "cmdKeys", unfollowed := true, recurses := true, apart := false, narrowed := true }
def CmdKeysUptoSaid : Prop := cmdKeysUptoRow.holds Try.pinned (OpenSpec.upto cmdKeysSpec)

/-- 'portholelaw24.CmdBack', WHERE WHAT IT READS IS OF BULK AT MOST 1048576: true; the input reads as it did. -/
def cmdBackUptoRow : OpenClaim := { program := "ytnpmlgibjhjiiaa", sum := "ed9d9f5c816e469666238d9d5016a23676c2d5525028837f73f797beb390b4ae", func := "porthole/portholelaw24.CmdBack", spec := "cmdBack", inPlace := ["internal/abi.NoEscape", "internal/bytealg.MakeNoZero"], recurses := true, apart := false, narrowed := true }
def CmdBackUptoSaid : Prop := cmdBackUptoRow.holds Try.pinned (OpenSpec.upto cmdBackSpec)

/-- 'portholelaw24.CmdParts', WHERE WHAT IT READS IS OF BULK AT MOST 1048576: true; the input reads as it did. -/
def cmdPartsUptoRow : OpenClaim := { program := "ytnpmlgibjhjiiaa", sum := "ed9d9f5c816e469666238d9d5016a23676c2d5525028837f73f797beb390b4ae", func := "porthole/portholelaw24.CmdParts", spec := "cmdParts", inPlace := ["internal/abi.NoEscape", "internal/bytealg.MakeNoZero"], recurses := true, apart := false, narrowed := true }
def CmdPartsUptoSaid : Prop := cmdPartsUptoRow.holds Try.pinned (OpenSpec.upto cmdPartsSpec)

end Rows
end Go.Proofs.Ytnpmlgibjhjiiaa
