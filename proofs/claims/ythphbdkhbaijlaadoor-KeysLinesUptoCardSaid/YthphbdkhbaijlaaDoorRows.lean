/-
  NARROWER THAN 'FOR EVERY INPUT', by the rows' own cells (each row's printed sentence says how): KeysMatch: laid · KeysStars: laid · KeysAllows: laid · KeysFinds: laid · KeysPrints: laid · KeysParses: laid · KeysBack: laid · KeysLines: laid · KeysKnown: laid.
  DERIVED. THE GIVEN ROWS OF THIS SEAT. 9 by the template 'for every input the law returns true; each argument reads behind the call as it read before'; 0 by the template 'total and deterministic' (their statements: YthphbdkhbaijlaaDoorTotals.lean).
  GIVEN WITH THE SEED: the statements are not yours to turn. If you find one false, say at which input.
  Laid BY PROGRAM, IN A SANDBOX (cutbox-rows.mjs): the forced cells as the released guide's own fill.sh prints them over the translation 7c1ee24c624dccda… (all of the seat's roots in one cut). By AI agents, Wed Nov 11 2026. No macro, syntax, notation, axiom, sorry.
-/
import Derived.Test.YthphbdkhbaijlaaDoorChecked
import GoSem.PinnedTables
import GoSem.Claim
import GoSem.ClaimJoined
import GoSem.ClaimMapViews
import Derived.JoinedTies
import Derived.KernelRfl
namespace Go.Proofs.YthphbdkhbaijlaaDoor
/- THE CELL 'sum', in the pinned program and in every row, IS THE sha256 OF THE DUMP (.gsa) THAT YthphbdkhbaijlaaDoorProg.lean LOADS. Nothing in Lean hashes anything: it is a label: what it is worth is what the hold of that sum in a sandbox is worth. -/
noncomputable def Tryd.pinned : Pinned := { name := "ythphbdkhbaijlaadoor", sum := "7c1ee24c624dccda8cf58e71f9c9f5da53913d7a79c5506371cd2df4107211d5", checked := Tryd.checked }
namespace Rows
def none {H : Type} : Left H := { results := [], args := [] }

/- WHAT THE LISTED PACKAGE-LEVEL VARIABLES READ AS WHEN THE CALL BEGINS. Each datum BY PROGRAM (the guide's laid-datum.mjs) off the statement by which the dump's own 'gosem.cut.vars' lays the variable. In a bare row this is a premise. The card (YthphbdkhbaijlaaDoorCards.lean) ties it to the program's text. -/
def laid_unicode_utf8_acceptRanges {H : Type} : DataW H := .agg [.agg [.lit (.int .u8 128), .lit (.int .u8 191)], .agg [.lit (.int .u8 160), .lit (.int .u8 191)], .agg [.lit (.int .u8 128), .lit (.int .u8 159)], .agg [.lit (.int .u8 144), .lit (.int .u8 191)], .agg [.lit (.int .u8 128), .lit (.int .u8 143)], .agg [.lit (.int .u8 0), .lit (.int .u8 0)], .agg [.lit (.int .u8 0), .lit (.int .u8 0)], .agg [.lit (.int .u8 0), .lit (.int .u8 0)], .agg [.lit (.int .u8 0), .lit (.int .u8 0)], .agg [.lit (.int .u8 0), .lit (.int .u8 0)], .agg [.lit (.int .u8 0), .lit (.int .u8 0)], .agg [.lit (.int .u8 0), .lit (.int .u8 0)], .agg [.lit (.int .u8 0), .lit (.int .u8 0)], .agg [.lit (.int .u8 0), .lit (.int .u8 0)], .agg [.lit (.int .u8 0), .lit (.int .u8 0)], .agg [.lit (.int .u8 0), .lit (.int .u8 0)]]
/-- One of Go's own tables, pinned by name: the form's constant. -/
def laid_unicode_utf8_first : DataW Unit := Go.Pinned.utf8First
def laid_porthole_portholelaw17_names {H : Type} : DataW H := .agg [.lit (.string [98, 111, 98]), .lit (.string [97, 108]), .lit (.string [120, 45, 49]), .lit (.string [119, 111, 114, 107]), .lit (.string [97]), .lit (.string [122, 101, 100])]
def laid_porthole_portholelaw17_patterns {H : Type} : DataW H := .agg [.lit (.string [42]), .lit (.string [97, 42]), .lit (.string [119, 63, 114, 107]), .lit (.string [98, 111, 98]), .lit (.string [42, 45, 42]), .lit (.string [63, 63]), .lit (.string [119, 42, 107, 42]), .lit (.string [97])]

/-- 'portholelaw17.KeysMatch': WHATEVER THE INPUT: true; the input reads as it did. -/
def keysMatchSpec : ChangeSpec := { name := "keysMatch", fn := fun _ => fun
  | [d1, d2, d3, d4, d5] => { results := [.lit (.bool true)], args := [d1, d2, d3, d4, d5] }
  | _ => none }
def keysMatchRow : OpenClaim := { program := "ythphbdkhbaijlaadoor", sum := "7c1ee24c624dccda8cf58e71f9c9f5da53913d7a79c5506371cd2df4107211d5", func := "porthole/portholelaw17.KeysMatch", spec := "keysMatch", inPlace := ["internal/bytealg.IndexByteString", "internal/bytealg.IndexString"], named := ["unicode/utf8.first", "unicode/utf8.acceptRanges", "internal/bytealg.MaxLen"], apart := false, laid := [("unicode/utf8.acceptRanges", laid_unicode_utf8_acceptRanges), ("unicode/utf8.first", laid_unicode_utf8_first)] }
def KeysMatchSaid : Prop := keysMatchRow.holds Tryd.pinned (OpenSpec.ofChange keysMatchSpec)

/-- ITS FALSE NEIGHBOUR: 'it returns false'. Refute it at one input. -/
def keysMatchWrong : ChangeSpec := { name := "keysMatch", fn := fun _ => fun
  | [d1, d2, d3, d4, d5] => { results := [.lit (.bool false)], args := [d1, d2, d3, d4, d5] }
  | _ => none }
def KeysMatchWrongFalsely : Prop := keysMatchRow.holds Tryd.pinned (OpenSpec.ofChange keysMatchWrong)

/-- 'portholelaw17.KeysStars': WHATEVER THE INPUT: true; the input reads as it did. -/
def keysStarsSpec : ChangeSpec := { name := "keysStars", fn := fun _ => fun
  | [d1, d2] => { results := [.lit (.bool true)], args := [d1, d2] }
  | _ => none }
def keysStarsRow : OpenClaim := { program := "ythphbdkhbaijlaadoor", sum := "7c1ee24c624dccda8cf58e71f9c9f5da53913d7a79c5506371cd2df4107211d5", func := "porthole/portholelaw17.KeysStars", spec := "keysStars", inPlace := ["internal/bytealg.IndexByteString", "internal/bytealg.IndexString"], named := ["unicode/utf8.first", "unicode/utf8.acceptRanges", "internal/bytealg.MaxLen"], apart := false, laid := [("unicode/utf8.acceptRanges", laid_unicode_utf8_acceptRanges), ("unicode/utf8.first", laid_unicode_utf8_first)] }
def KeysStarsSaid : Prop := keysStarsRow.holds Tryd.pinned (OpenSpec.ofChange keysStarsSpec)

/-- ITS FALSE NEIGHBOUR: 'it returns false'. Refute it at one input. -/
def keysStarsWrong : ChangeSpec := { name := "keysStars", fn := fun _ => fun
  | [d1, d2] => { results := [.lit (.bool false)], args := [d1, d2] }
  | _ => none }
def KeysStarsWrongFalsely : Prop := keysStarsRow.holds Tryd.pinned (OpenSpec.ofChange keysStarsWrong)

/-- 'portholelaw17.KeysAllows': WHATEVER THE INPUT: true; the input reads as it did. -/
def keysAllowsSpec : ChangeSpec := { name := "keysAllows", fn := fun _ => fun
  | [d1, d2, d3, d4, d5] => { results := [.lit (.bool true)], args := [d1, d2, d3, d4, d5] }
  | _ => none }
def keysAllowsRow : OpenClaim := { program := "ythphbdkhbaijlaadoor", sum := "7c1ee24c624dccda8cf58e71f9c9f5da53913d7a79c5506371cd2df4107211d5", func := "porthole/portholelaw17.KeysAllows", spec := "keysAllows", inPlace := ["internal/bytealg.IndexByteString", "internal/bytealg.IndexString"], named := ["porthole/portholelaw17.names", "porthole/portholelaw17.patterns", "unicode/utf8.first", "unicode/utf8.acceptRanges", "internal/bytealg.MaxLen"], apart := false, laid := [("unicode/utf8.acceptRanges", laid_unicode_utf8_acceptRanges), ("porthole/portholelaw17.names", laid_porthole_portholelaw17_names), ("porthole/portholelaw17.patterns", laid_porthole_portholelaw17_patterns), ("unicode/utf8.first", laid_unicode_utf8_first)] }
def KeysAllowsSaid : Prop := keysAllowsRow.holds Tryd.pinned (OpenSpec.ofChange keysAllowsSpec)

/-- ITS FALSE NEIGHBOUR: 'it returns false'. Refute it at one input. -/
def keysAllowsWrong : ChangeSpec := { name := "keysAllows", fn := fun _ => fun
  | [d1, d2, d3, d4, d5] => { results := [.lit (.bool false)], args := [d1, d2, d3, d4, d5] }
  | _ => none }
def KeysAllowsWrongFalsely : Prop := keysAllowsRow.holds Tryd.pinned (OpenSpec.ofChange keysAllowsWrong)

/-- 'portholelaw17.KeysFinds': WHATEVER THE INPUT: true; the input reads as it did. -/
def keysFindsSpec : ChangeSpec := { name := "keysFinds", fn := fun _ => fun
  | [d1, d2] => { results := [.lit (.bool true)], args := [d1, d2] }
  | _ => none }
def keysFindsRow : OpenClaim := { program := "ythphbdkhbaijlaadoor", sum := "7c1ee24c624dccda8cf58e71f9c9f5da53913d7a79c5506371cd2df4107211d5", func := "porthole/portholelaw17.KeysFinds", spec := "keysFinds", inPlace := ["internal/bytealg.IndexByteString", "internal/bytealg.IndexString"], named := ["porthole/portholelaw17.names", "porthole/portholelaw17.patterns", "unicode/utf8.first", "unicode/utf8.acceptRanges", "internal/bytealg.MaxLen"], apart := false, laid := [("unicode/utf8.acceptRanges", laid_unicode_utf8_acceptRanges), ("porthole/portholelaw17.names", laid_porthole_portholelaw17_names), ("porthole/portholelaw17.patterns", laid_porthole_portholelaw17_patterns), ("unicode/utf8.first", laid_unicode_utf8_first)] }
def KeysFindsSaid : Prop := keysFindsRow.holds Tryd.pinned (OpenSpec.ofChange keysFindsSpec)

/-- ITS FALSE NEIGHBOUR: 'it returns false'. Refute it at one input. -/
def keysFindsWrong : ChangeSpec := { name := "keysFinds", fn := fun _ => fun
  | [d1, d2] => { results := [.lit (.bool false)], args := [d1, d2] }
  | _ => none }
def KeysFindsWrongFalsely : Prop := keysFindsRow.holds Tryd.pinned (OpenSpec.ofChange keysFindsWrong)

/-- 'portholelaw17.KeysPrints': WHATEVER THE INPUT: true; the input reads as it did. -/
def keysPrintsSpec : ChangeSpec := { name := "keysPrints", fn := fun _ => fun
  | [d1, d2, d3] => { results := [.lit (.bool true)], args := [d1, d2, d3] }
  | _ => none }
def keysPrintsRow : OpenClaim := { program := "ythphbdkhbaijlaadoor", sum := "7c1ee24c624dccda8cf58e71f9c9f5da53913d7a79c5506371cd2df4107211d5", func := "porthole/portholelaw17.KeysPrints", spec := "keysPrints", inPlace := ["internal/bytealg.IndexByteString", "internal/abi.NoEscape", "internal/bytealg.IndexString"], named := ["porthole/portholelaw17.names", "porthole/portholelaw17.patterns", "unicode/utf8.first", "unicode/utf8.acceptRanges", "internal/bytealg.MaxLen"], apart := false, laid := [("unicode/utf8.acceptRanges", laid_unicode_utf8_acceptRanges), ("porthole/portholelaw17.names", laid_porthole_portholelaw17_names), ("porthole/portholelaw17.patterns", laid_porthole_portholelaw17_patterns), ("unicode/utf8.first", laid_unicode_utf8_first)] }
def KeysPrintsSaid : Prop := keysPrintsRow.holds Tryd.pinned (OpenSpec.ofChange keysPrintsSpec)

/-- ITS FALSE NEIGHBOUR: 'it returns false'. Refute it at one input. -/
def keysPrintsWrong : ChangeSpec := { name := "keysPrints", fn := fun _ => fun
  | [d1, d2, d3] => { results := [.lit (.bool false)], args := [d1, d2, d3] }
  | _ => none }
def KeysPrintsWrongFalsely : Prop := keysPrintsRow.holds Tryd.pinned (OpenSpec.ofChange keysPrintsWrong)

/-- 'portholelaw17.KeysParses': WHATEVER THE INPUT: true; the input reads as it did. -/
def keysParsesSpec : ChangeSpec := { name := "keysParses", fn := fun _ => fun
  | [d1, d2, d3, d4, d5] => { results := [.lit (.bool true)], args := [d1, d2, d3, d4, d5] }
  | _ => none }
def keysParsesRow : OpenClaim := { program := "ythphbdkhbaijlaadoor", sum := "7c1ee24c624dccda8cf58e71f9c9f5da53913d7a79c5506371cd2df4107211d5", func := "porthole/portholelaw17.KeysParses", spec := "keysParses", inPlace := ["internal/bytealg.CountString", "internal/bytealg.IndexByteString", "internal/bytealg.IndexString"], named := ["porthole/portholelaw17.names", "porthole/portholelaw17.patterns", "unicode/utf8.first", "unicode/utf8.acceptRanges", "internal/bytealg.MaxLen"], apart := false, laid := [("unicode/utf8.acceptRanges", laid_unicode_utf8_acceptRanges), ("porthole/portholelaw17.names", laid_porthole_portholelaw17_names), ("porthole/portholelaw17.patterns", laid_porthole_portholelaw17_patterns), ("unicode/utf8.first", laid_unicode_utf8_first)] }
def KeysParsesSaid : Prop := keysParsesRow.holds Tryd.pinned (OpenSpec.ofChange keysParsesSpec)

/-- ITS FALSE NEIGHBOUR: 'it returns false'. Refute it at one input. -/
def keysParsesWrong : ChangeSpec := { name := "keysParses", fn := fun _ => fun
  | [d1, d2, d3, d4, d5] => { results := [.lit (.bool false)], args := [d1, d2, d3, d4, d5] }
  | _ => none }
def KeysParsesWrongFalsely : Prop := keysParsesRow.holds Tryd.pinned (OpenSpec.ofChange keysParsesWrong)

/-- 'portholelaw17.KeysBack': WHATEVER THE INPUT: true; the input reads as it did. -/
def keysBackSpec : ChangeSpec := { name := "keysBack", fn := fun _ => fun
  | [d] => { results := [.lit (.bool true)], args := [d] }
  | _ => none }
def keysBackRow : OpenClaim := { program := "ythphbdkhbaijlaadoor", sum := "7c1ee24c624dccda8cf58e71f9c9f5da53913d7a79c5506371cd2df4107211d5", func := "porthole/portholelaw17.KeysBack", spec := "keysBack", inPlace := ["internal/bytealg.IndexByteString", "internal/abi.NoEscape", "internal/bytealg.IndexString", "internal/bytealg.CountString"], named := ["porthole/portholelaw17.names", "porthole/portholelaw17.patterns", "unicode/utf8.first", "unicode/utf8.acceptRanges", "internal/bytealg.MaxLen"], apart := false, laid := [("unicode/utf8.acceptRanges", laid_unicode_utf8_acceptRanges), ("porthole/portholelaw17.names", laid_porthole_portholelaw17_names), ("porthole/portholelaw17.patterns", laid_porthole_portholelaw17_patterns), ("unicode/utf8.first", laid_unicode_utf8_first)] }
def KeysBackSaid : Prop := keysBackRow.holds Tryd.pinned (OpenSpec.ofChange keysBackSpec)

/-- ITS FALSE NEIGHBOUR: 'it returns false'. Refute it at one input. -/
def keysBackWrong : ChangeSpec := { name := "keysBack", fn := fun _ => fun
  | [d] => { results := [.lit (.bool false)], args := [d] }
  | _ => none }
def KeysBackWrongFalsely : Prop := keysBackRow.holds Tryd.pinned (OpenSpec.ofChange keysBackWrong)

/-- 'portholelaw17.KeysLines': WHATEVER THE INPUT: true; the input reads as it did. -/
def keysLinesSpec : ChangeSpec := { name := "keysLines", fn := fun _ => fun
  | [d1, d2] => { results := [.lit (.bool true)], args := [d1, d2] }
  | _ => none }
def keysLinesRow : OpenClaim := { program := "ythphbdkhbaijlaadoor", sum := "7c1ee24c624dccda8cf58e71f9c9f5da53913d7a79c5506371cd2df4107211d5", func := "porthole/portholelaw17.KeysLines", spec := "keysLines", inPlace := ["internal/bytealg.IndexByteString", "internal/bytealg.IndexString", "internal/abi.NoEscape", "internal/bytealg.CountString"], named := ["porthole/portholelaw17.names", "porthole/portholelaw17.patterns", "unicode/utf8.first", "unicode/utf8.acceptRanges", "internal/bytealg.MaxLen"], apart := false, laid := [("unicode/utf8.acceptRanges", laid_unicode_utf8_acceptRanges), ("porthole/portholelaw17.names", laid_porthole_portholelaw17_names), ("porthole/portholelaw17.patterns", laid_porthole_portholelaw17_patterns), ("unicode/utf8.first", laid_unicode_utf8_first)] }
def KeysLinesSaid : Prop := keysLinesRow.holds Tryd.pinned (OpenSpec.ofChange keysLinesSpec)

/-- ITS FALSE NEIGHBOUR: 'it returns false'. Refute it at one input. -/
def keysLinesWrong : ChangeSpec := { name := "keysLines", fn := fun _ => fun
  | [d1, d2] => { results := [.lit (.bool false)], args := [d1, d2] }
  | _ => none }
def KeysLinesWrongFalsely : Prop := keysLinesRow.holds Tryd.pinned (OpenSpec.ofChange keysLinesWrong)

/-- 'portholelaw17.KeysKnown': WHATEVER THE INPUT: true; the input reads as it did. -/
def keysKnownSpec : ChangeSpec := { name := "keysKnown", fn := fun _ => fun
  | [] => { results := [.lit (.bool true)], args := [] }
  | _ => none }
def keysKnownRow : OpenClaim := { program := "ythphbdkhbaijlaadoor", sum := "7c1ee24c624dccda8cf58e71f9c9f5da53913d7a79c5506371cd2df4107211d5", func := "porthole/portholelaw17.KeysKnown", spec := "keysKnown", inPlace := ["internal/bytealg.CountString", "internal/bytealg.IndexByteString", "internal/bytealg.IndexString", "internal/abi.NoEscape"], named := ["unicode/utf8.first", "unicode/utf8.acceptRanges", "internal/bytealg.MaxLen"], apart := false, laid := [("unicode/utf8.acceptRanges", laid_unicode_utf8_acceptRanges), ("unicode/utf8.first", laid_unicode_utf8_first)] }
def KeysKnownSaid : Prop := keysKnownRow.holds Tryd.pinned (OpenSpec.ofChange keysKnownSpec)

/-- ITS FALSE NEIGHBOUR: 'it returns false'. Refute it at one input. -/
def keysKnownWrong : ChangeSpec := { name := "keysKnown", fn := fun _ => fun
  | [] => { results := [.lit (.bool false)], args := [] }
  | _ => none }
def KeysKnownWrongFalsely : Prop := keysKnownRow.holds Tryd.pinned (OpenSpec.ofChange keysKnownWrong)

/- THE SECOND FORM. 'bulk': how many values and letters a reading holds, each counted each time it is reached (what is shared counts as often as it is met; a slice's spare places count too). A statement '..UptoSaid' is the law's where the arguments, and the package variables that the reading takes, are together of bulk at most 1048576: NARROWER than '..Said'. Prove '..Said' where nothing that the law and all that it calls make is longer than what came in: it says more and counts as full. Else prove '..UptoSaid'. A law counts once. -/
mutual
def uptoBulk {H : Type} : DataW H → Nat
  | .lit (.string bytes) => bytes.length + 1
  | .lit _ => 1
  | .nil => 1
  | .ptr d => uptoBulk d + 1
  | .slice elems spare => uptoBulkAll elems + uptoBulkAll spare + 1
  | .agg parts => uptoBulkAll parts + 1
  | .iface _ d => uptoBulk d + 1
  | .map entries => uptoBulkEntries entries + 1
  | .held _ => 1
def uptoBulkAll {H : Type} : List (DataW H) → Nat
  | [] => 0
  | d :: r => uptoBulk d + uptoBulkAll r
def uptoBulkEntries {H : Type} : List (Lit × DataW H) → Nat
  | [] => 0
  | x :: r => uptoBulkEntry x + uptoBulkEntries r
def uptoBulkEntry {H : Type} : Lit × DataW H → Nat
  | (.string bytes, d) => bytes.length + uptoBulk d + 1
  | (_, d) => uptoBulk d + 1
 end
def uptoSmall : (H : Type) → List (DataW H) → Bool := fun _ ds => decide (uptoBulkAll ds ≤ 1048576)
def OpenSpec.upto (s : _root_.Go.ChangeSpec) : _root_.Go.OpenSpec := { _root_.Go.OpenSpec.ofChange s with cond := some uptoSmall }

/-- 'portholelaw17.KeysMatch', WHERE WHAT IT READS IS OF BULK AT MOST 1048576: true; the input reads as it did. -/
def keysMatchUptoRow : OpenClaim := { program := "ythphbdkhbaijlaadoor", sum := "7c1ee24c624dccda8cf58e71f9c9f5da53913d7a79c5506371cd2df4107211d5", func := "porthole/portholelaw17.KeysMatch", spec := "keysMatch", inPlace := ["internal/bytealg.IndexByteString", "internal/bytealg.IndexString"], named := ["unicode/utf8.first", "unicode/utf8.acceptRanges", "internal/bytealg.MaxLen"], apart := false, laid := [("unicode/utf8.acceptRanges", laid_unicode_utf8_acceptRanges), ("unicode/utf8.first", laid_unicode_utf8_first)], narrowed := true }
def KeysMatchUptoSaid : Prop := keysMatchUptoRow.holds Tryd.pinned (OpenSpec.upto keysMatchSpec)

/-- 'portholelaw17.KeysStars', WHERE WHAT IT READS IS OF BULK AT MOST 1048576: true; the input reads as it did. -/
def keysStarsUptoRow : OpenClaim := { program := "ythphbdkhbaijlaadoor", sum := "7c1ee24c624dccda8cf58e71f9c9f5da53913d7a79c5506371cd2df4107211d5", func := "porthole/portholelaw17.KeysStars", spec := "keysStars", inPlace := ["internal/bytealg.IndexByteString", "internal/bytealg.IndexString"], named := ["unicode/utf8.first", "unicode/utf8.acceptRanges", "internal/bytealg.MaxLen"], apart := false, laid := [("unicode/utf8.acceptRanges", laid_unicode_utf8_acceptRanges), ("unicode/utf8.first", laid_unicode_utf8_first)], narrowed := true }
def KeysStarsUptoSaid : Prop := keysStarsUptoRow.holds Tryd.pinned (OpenSpec.upto keysStarsSpec)

/-- 'portholelaw17.KeysAllows', WHERE WHAT IT READS IS OF BULK AT MOST 1048576: true; the input reads as it did. -/
def keysAllowsUptoRow : OpenClaim := { program := "ythphbdkhbaijlaadoor", sum := "7c1ee24c624dccda8cf58e71f9c9f5da53913d7a79c5506371cd2df4107211d5", func := "porthole/portholelaw17.KeysAllows", spec := "keysAllows", inPlace := ["internal/bytealg.IndexByteString", "internal/bytealg.IndexString"], named := ["porthole/portholelaw17.names", "porthole/portholelaw17.patterns", "unicode/utf8.first", "unicode/utf8.acceptRanges", "internal/bytealg.MaxLen"], apart := false, laid := [("unicode/utf8.acceptRanges", laid_unicode_utf8_acceptRanges), ("porthole/portholelaw17.names", laid_porthole_portholelaw17_names), ("porthole/portholelaw17.patterns", laid_porthole_portholelaw17_patterns), ("unicode/utf8.first", laid_unicode_utf8_first)], narrowed := true }
def KeysAllowsUptoSaid : Prop := keysAllowsUptoRow.holds Tryd.pinned (OpenSpec.upto keysAllowsSpec)

/-- 'portholelaw17.KeysFinds', WHERE WHAT IT READS IS OF BULK AT MOST 1048576: true; the input reads as it did. -/
def keysFindsUptoRow : OpenClaim := { program := "ythphbdkhbaijlaadoor", sum := "7c1ee24c624dccda8cf58e71f9c9f5da53913d7a79c5506371cd2df4107211d5", func := "porthole/portholelaw17.KeysFinds", spec := "keysFinds", inPlace := ["internal/bytealg.IndexByteString", "internal/bytealg.IndexString"], named := ["porthole/portholelaw17.names", "porthole/portholelaw17.patterns", "unicode/utf8.first", "unicode/utf8.acceptRanges", "internal/bytealg.MaxLen"], apart := false, laid := [("unicode/utf8.acceptRanges", laid_unicode_utf8_acceptRanges), ("porthole/portholelaw17.names", laid_porthole_portholelaw17_names), ("porthole/portholelaw17.patterns", laid_porthole_portholelaw17_patterns), ("unicode/utf8.first", laid_unicode_utf8_first)], narrowed := true }
def KeysFindsUptoSaid : Prop := keysFindsUptoRow.holds Tryd.pinned (OpenSpec.upto keysFindsSpec)

/-- 'portholelaw17.KeysPrints', WHERE WHAT IT READS IS OF BULK AT MOST 1048576: true; the input reads as it did. -/
def keysPrintsUptoRow : OpenClaim := { program := "ythphbdkhbaijlaadoor", sum := "7c1ee24c624dccda8cf58e71f9c9f5da53913d7a79c5506371cd2df4107211d5", func := "porthole/portholelaw17.KeysPrints", spec := "keysPrints", inPlace := ["internal/bytealg.IndexByteString", "internal/abi.NoEscape", "internal/bytealg.IndexString"], named := ["porthole/portholelaw17.names", "porthole/portholelaw17.patterns", "unicode/utf8.first", "unicode/utf8.acceptRanges", "internal/bytealg.MaxLen"], apart := false, laid := [("unicode/utf8.acceptRanges", laid_unicode_utf8_acceptRanges), ("porthole/portholelaw17.names", laid_porthole_portholelaw17_names), ("porthole/portholelaw17.patterns", laid_porthole_portholelaw17_patterns), ("unicode/utf8.first", laid_unicode_utf8_first)], narrowed := true }
def KeysPrintsUptoSaid : Prop := keysPrintsUptoRow.holds Tryd.pinned (OpenSpec.upto keysPrintsSpec)

/-- 'portholelaw17.KeysParses', WHERE WHAT IT READS IS OF BULK AT MOST 1048576: true; the input reads as it did. -/
def keysParsesUptoRow : OpenClaim := { program := "ythphbdkhbaijlaadoor", sum := "7c1ee24c624dccda8cf58e71f9c9f5da53913d7a79c5506371cd2df4107211d5", func := "porthole/portholelaw17.KeysParses", spec := "keysParses", inPlace := ["internal/bytealg.CountString", "internal/bytealg.IndexByteString", "internal/bytealg.IndexString"], named := ["porthole/portholelaw17.names", "porthole/portholelaw17.patterns", "unicode/utf8.first", "unicode/utf8.acceptRanges", "internal/bytealg.MaxLen"], apart := false, laid := [("unicode/utf8.acceptRanges", laid_unicode_utf8_acceptRanges), ("porthole/portholelaw17.names", laid_porthole_portholelaw17_names), ("porthole/portholelaw17.patterns", laid_porthole_portholelaw17_patterns), ("unicode/utf8.first", laid_unicode_utf8_first)], narrowed := true }
def KeysParsesUptoSaid : Prop := keysParsesUptoRow.holds Tryd.pinned (OpenSpec.upto keysParsesSpec)

/-- 'portholelaw17.KeysBack', WHERE WHAT IT READS IS OF BULK AT MOST 1048576: true; the input reads as it did. -/
def keysBackUptoRow : OpenClaim := { program := "ythphbdkhbaijlaadoor", sum := "7c1ee24c624dccda8cf58e71f9c9f5da53913d7a79c5506371cd2df4107211d5", func := "porthole/portholelaw17.KeysBack", spec := "keysBack", inPlace := ["internal/bytealg.IndexByteString", "internal/abi.NoEscape", "internal/bytealg.IndexString", "internal/bytealg.CountString"], named := ["porthole/portholelaw17.names", "porthole/portholelaw17.patterns", "unicode/utf8.first", "unicode/utf8.acceptRanges", "internal/bytealg.MaxLen"], apart := false, laid := [("unicode/utf8.acceptRanges", laid_unicode_utf8_acceptRanges), ("porthole/portholelaw17.names", laid_porthole_portholelaw17_names), ("porthole/portholelaw17.patterns", laid_porthole_portholelaw17_patterns), ("unicode/utf8.first", laid_unicode_utf8_first)], narrowed := true }
def KeysBackUptoSaid : Prop := keysBackUptoRow.holds Tryd.pinned (OpenSpec.upto keysBackSpec)

/-- 'portholelaw17.KeysLines', WHERE WHAT IT READS IS OF BULK AT MOST 1048576: true; the input reads as it did. -/
def keysLinesUptoRow : OpenClaim := { program := "ythphbdkhbaijlaadoor", sum := "7c1ee24c624dccda8cf58e71f9c9f5da53913d7a79c5506371cd2df4107211d5", func := "porthole/portholelaw17.KeysLines", spec := "keysLines", inPlace := ["internal/bytealg.IndexByteString", "internal/bytealg.IndexString", "internal/abi.NoEscape", "internal/bytealg.CountString"], named := ["porthole/portholelaw17.names", "porthole/portholelaw17.patterns", "unicode/utf8.first", "unicode/utf8.acceptRanges", "internal/bytealg.MaxLen"], apart := false, laid := [("unicode/utf8.acceptRanges", laid_unicode_utf8_acceptRanges), ("porthole/portholelaw17.names", laid_porthole_portholelaw17_names), ("porthole/portholelaw17.patterns", laid_porthole_portholelaw17_patterns), ("unicode/utf8.first", laid_unicode_utf8_first)], narrowed := true }
def KeysLinesUptoSaid : Prop := keysLinesUptoRow.holds Tryd.pinned (OpenSpec.upto keysLinesSpec)

/-- 'portholelaw17.KeysKnown', WHERE WHAT IT READS IS OF BULK AT MOST 1048576: true; the input reads as it did. -/
def keysKnownUptoRow : OpenClaim := { program := "ythphbdkhbaijlaadoor", sum := "7c1ee24c624dccda8cf58e71f9c9f5da53913d7a79c5506371cd2df4107211d5", func := "porthole/portholelaw17.KeysKnown", spec := "keysKnown", inPlace := ["internal/bytealg.CountString", "internal/bytealg.IndexByteString", "internal/bytealg.IndexString", "internal/abi.NoEscape"], named := ["unicode/utf8.first", "unicode/utf8.acceptRanges", "internal/bytealg.MaxLen"], apart := false, laid := [("unicode/utf8.acceptRanges", laid_unicode_utf8_acceptRanges), ("unicode/utf8.first", laid_unicode_utf8_first)], narrowed := true }
def KeysKnownUptoSaid : Prop := keysKnownUptoRow.holds Tryd.pinned (OpenSpec.upto keysKnownSpec)

end Rows
end Go.Proofs.YthphbdkhbaijlaaDoor
