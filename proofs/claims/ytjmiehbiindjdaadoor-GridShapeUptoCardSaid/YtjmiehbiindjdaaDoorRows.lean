/-
  NARROWER THAN 'FOR EVERY INPUT', by the rows' own cells (each row's printed sentence says how): GridTexts: laid · GridPieces: laid · GridMoves: laid · GridErases: laid · GridStyles: laid · GridAway: laid · GridRegion: laid · GridWraps: laid · GridShape: laid · GridSizes: laid · GridKnown: laid.
  DERIVED. THE GIVEN ROWS OF THIS SEAT. 11 by the template 'for every input the law returns true; each argument reads behind the call as it read before'; 0 by the template 'total and deterministic' (their statements: YtjmiehbiindjdaaDoorTotals.lean).
  GIVEN WITH THE SEED: the statements are not yours to turn. If you find one false, say at which input.
  Laid BY PROGRAM, IN A SANDBOX (cutbox-rows.mjs): the forced cells as the released guide's own fill.sh prints them over the translation 746a58b4b3f7a67f… (all of the seat's roots in one cut). By AI agents, Wed Nov 11 2026. No macro, syntax, notation, axiom, sorry.
-/
import Derived.Test.YtjmiehbiindjdaaDoorChecked
import GoSem.PinnedTables
import GoSem.Claim
import GoSem.ClaimJoined
import GoSem.ClaimMapViews
import Derived.JoinedTies
import Derived.KernelRfl
namespace Go.Proofs.YtjmiehbiindjdaaDoor
/- THE CELL 'sum', in the pinned program and in every row, IS THE sha256 OF THE DUMP (.gsa) THAT YtjmiehbiindjdaaDoorProg.lean LOADS. Nothing in Lean hashes anything: it is a label: what it is worth is what the hold of that sum in a sandbox is worth. -/
noncomputable def Tryd.pinned : Pinned := { name := "ytjmiehbiindjdaadoor", sum := "746a58b4b3f7a67f55fcea27769d394aa1a9511be31c6e7492a7f8dcdc3a3d4f", checked := Tryd.checked }
namespace Rows
def none {H : Type} : Left H := { results := [], args := [] }

/- WHAT THE LISTED PACKAGE-LEVEL VARIABLES READ AS WHEN THE CALL BEGINS. Each datum BY PROGRAM (the guide's laid-datum.mjs) off the statement by which the dump's own 'gosem.cut.vars' lays the variable. In a bare row this is a premise. The card (YtjmiehbiindjdaaDoorCards.lean) ties it to the program's text. -/
def laid_unicode_utf8_acceptRanges {H : Type} : DataW H := .agg [.agg [.lit (.int .u8 128), .lit (.int .u8 191)], .agg [.lit (.int .u8 160), .lit (.int .u8 191)], .agg [.lit (.int .u8 128), .lit (.int .u8 159)], .agg [.lit (.int .u8 144), .lit (.int .u8 191)], .agg [.lit (.int .u8 128), .lit (.int .u8 143)], .agg [.lit (.int .u8 0), .lit (.int .u8 0)], .agg [.lit (.int .u8 0), .lit (.int .u8 0)], .agg [.lit (.int .u8 0), .lit (.int .u8 0)], .agg [.lit (.int .u8 0), .lit (.int .u8 0)], .agg [.lit (.int .u8 0), .lit (.int .u8 0)], .agg [.lit (.int .u8 0), .lit (.int .u8 0)], .agg [.lit (.int .u8 0), .lit (.int .u8 0)], .agg [.lit (.int .u8 0), .lit (.int .u8 0)], .agg [.lit (.int .u8 0), .lit (.int .u8 0)], .agg [.lit (.int .u8 0), .lit (.int .u8 0)], .agg [.lit (.int .u8 0), .lit (.int .u8 0)]]
/-- One of Go's own tables, pinned by name: the form's constant. -/
def laid_unicode_utf8_first : DataW Unit := Go.Pinned.utf8First
def laid_porthole_portholehand_parts {H : Type} : DataW H := .agg [.lit (.string [97]), .lit (.string [66, 99]), .lit (.string [120, 121, 122]), .lit (.string [195, 169]), .lit (.string [226, 130, 172]), .lit (.string [13, 10]), .lit (.string [10]), .lit (.string [13]), .lit (.string [8]), .lit (.string [9]), .lit (.string [27, 91, 65]), .lit (.string [27, 91, 50, 66]), .lit (.string [27, 91, 51, 67]), .lit (.string [27, 91, 68]), .lit (.string [27, 91, 72]), .lit (.string [27, 91, 50, 59, 51, 72]), .lit (.string [27, 91, 74]), .lit (.string [27, 91, 49, 74]), .lit (.string [27, 91, 50, 74]), .lit (.string [27, 91, 75]), .lit (.string [27, 91, 49, 75]), .lit (.string [27, 91, 76]), .lit (.string [27, 91, 77]), .lit (.string [27, 91, 50, 64]), .lit (.string [27, 91, 80]), .lit (.string [27, 91, 88]), .lit (.string [27, 91, 83]), .lit (.string [27, 91, 84]), .lit (.string [27, 91, 49, 59, 51, 49, 109]), .lit (.string [27, 91, 48, 109]), .lit (.string [27, 77]), .lit (.string [27, 55]), .lit (.string [27, 56]), .lit (.string [27, 91, 63, 49, 48, 52, 57, 104])]
def laid_porthole_portholehand_more {H : Type} : DataW H := .agg [.lit (.string [27, 91, 63, 49, 48, 52, 57, 108]), .lit (.string [27, 91, 63, 55, 108]), .lit (.string [27, 91, 63, 55, 104]), .lit (.string [27, 91, 63, 50, 53, 108]), .lit (.string [27, 91, 63, 50, 53, 104]), .lit (.string [27, 91, 52, 104]), .lit (.string [27, 91, 52, 108]), .lit (.string [27, 72]), .lit (.string [27, 91, 103]), .lit (.string [27, 91, 51, 103]), .lit (.string [27, 99]), .lit (.string [27, 68]), .lit (.string [27, 69]), .lit (.string [27, 93, 48, 59, 116, 7]), .lit (.string [27, 40, 66]), .lit (.string [27, 91, 57, 57, 59, 57, 57, 72]), .lit (.string [27, 91, 51, 74]), .lit (.string [27, 91, 55, 59, 52, 50, 109]), .lit (.string [27, 91, 51, 57, 59, 52, 57, 109]), .lit (.string [255]), .lit (.string [226, 130]), .lit (.string [27, 91, 53, 71])]

/-- 'portholelaw21.GridTexts': WHATEVER THE INPUT: true; the input reads as it did. -/
def gridTextsSpec : ChangeSpec := { name := "gridTexts", fn := fun _ => fun
  | [d1, d2] => { results := [.lit (.bool true)], args := [d1, d2] }
  | _ => none }
def gridTextsRow : OpenClaim := { program := "ytjmiehbiindjdaadoor", sum := "746a58b4b3f7a67f55fcea27769d394aa1a9511be31c6e7492a7f8dcdc3a3d4f", func := "porthole/portholelaw21.GridTexts", spec := "gridTexts", inPlace := ["internal/bytealg.IndexByteString", "internal/bytealg.IndexString"], named := ["unicode/utf8.first", "unicode/utf8.acceptRanges", "internal/bytealg.MaxLen"], apart := false, laid := [("unicode/utf8.acceptRanges", laid_unicode_utf8_acceptRanges), ("unicode/utf8.first", laid_unicode_utf8_first)] }
def GridTextsSaid : Prop := gridTextsRow.holds Tryd.pinned (OpenSpec.ofChange gridTextsSpec)

/-- ITS FALSE NEIGHBOUR: 'it returns false'. Refute it at one input. -/
def gridTextsWrong : ChangeSpec := { name := "gridTexts", fn := fun _ => fun
  | [d1, d2] => { results := [.lit (.bool false)], args := [d1, d2] }
  | _ => none }
def GridTextsWrongFalsely : Prop := gridTextsRow.holds Tryd.pinned (OpenSpec.ofChange gridTextsWrong)

/-- 'portholelaw21.GridPieces': WHATEVER THE INPUT: true; the input reads as it did. -/
def gridPiecesSpec : ChangeSpec := { name := "gridPieces", fn := fun _ => fun
  | [d1, d2, d3, d4] => { results := [.lit (.bool true)], args := [d1, d2, d3, d4] }
  | _ => none }
def gridPiecesRow : OpenClaim := { program := "ytjmiehbiindjdaadoor", sum := "746a58b4b3f7a67f55fcea27769d394aa1a9511be31c6e7492a7f8dcdc3a3d4f", func := "porthole/portholelaw21.GridPieces", spec := "gridPieces", inPlace := ["internal/bytealg.IndexByteString", "internal/bytealg.IndexString"], recurses := true, named := ["unicode/utf8.first", "unicode/utf8.acceptRanges", "porthole/portholehand.parts", "porthole/portholehand.more", "internal/bytealg.MaxLen"], apart := false, laid := [("unicode/utf8.acceptRanges", laid_unicode_utf8_acceptRanges), ("porthole/portholehand.parts", laid_porthole_portholehand_parts), ("porthole/portholehand.more", laid_porthole_portholehand_more), ("unicode/utf8.first", laid_unicode_utf8_first)] }
def GridPiecesSaid : Prop := gridPiecesRow.holds Tryd.pinned (OpenSpec.ofChange gridPiecesSpec)

/-- ITS FALSE NEIGHBOUR: 'it returns false'. Refute it at one input. -/
def gridPiecesWrong : ChangeSpec := { name := "gridPieces", fn := fun _ => fun
  | [d1, d2, d3, d4] => { results := [.lit (.bool false)], args := [d1, d2, d3, d4] }
  | _ => none }
def GridPiecesWrongFalsely : Prop := gridPiecesRow.holds Tryd.pinned (OpenSpec.ofChange gridPiecesWrong)

/-- 'portholelaw21.GridMoves': WHATEVER THE INPUT: true; the input reads as it did. -/
def gridMovesSpec : ChangeSpec := { name := "gridMoves", fn := fun _ => fun
  | [d1, d2, d3, d4, d5] => { results := [.lit (.bool true)], args := [d1, d2, d3, d4, d5] }
  | _ => none }
def gridMovesRow : OpenClaim := { program := "ytjmiehbiindjdaadoor", sum := "746a58b4b3f7a67f55fcea27769d394aa1a9511be31c6e7492a7f8dcdc3a3d4f", func := "porthole/portholelaw21.GridMoves", spec := "gridMoves", inPlace := ["internal/bytealg.IndexByteString", "internal/bytealg.IndexString"], unfollowed := true, recurses := true, named := ["unicode/utf8.first", "unicode/utf8.acceptRanges", "internal/bytealg.MaxLen"], apart := false, laid := [("unicode/utf8.acceptRanges", laid_unicode_utf8_acceptRanges), ("unicode/utf8.first", laid_unicode_utf8_first)] }
def GridMovesSaid : Prop := gridMovesRow.holds Tryd.pinned (OpenSpec.ofChange gridMovesSpec)

/-- ITS FALSE NEIGHBOUR: 'it returns false'. Refute it at one input. -/
def gridMovesWrong : ChangeSpec := { name := "gridMoves", fn := fun _ => fun
  | [d1, d2, d3, d4, d5] => { results := [.lit (.bool false)], args := [d1, d2, d3, d4, d5] }
  | _ => none }
def GridMovesWrongFalsely : Prop := gridMovesRow.holds Tryd.pinned (OpenSpec.ofChange gridMovesWrong)

/-- 'portholelaw21.GridErases': WHATEVER THE INPUT: true; the input reads as it did. -/
def gridErasesSpec : ChangeSpec := { name := "gridErases", fn := fun _ => fun
  | [d1, d2, d3, d4, d5] => { results := [.lit (.bool true)], args := [d1, d2, d3, d4, d5] }
  | _ => none }
def gridErasesRow : OpenClaim := { program := "ytjmiehbiindjdaadoor", sum := "746a58b4b3f7a67f55fcea27769d394aa1a9511be31c6e7492a7f8dcdc3a3d4f", func := "porthole/portholelaw21.GridErases", spec := "gridErases", inPlace := ["internal/bytealg.IndexByteString", "internal/bytealg.IndexString"], recurses := true, named := ["unicode/utf8.first", "unicode/utf8.acceptRanges", "internal/bytealg.MaxLen"], apart := false, laid := [("unicode/utf8.acceptRanges", laid_unicode_utf8_acceptRanges), ("unicode/utf8.first", laid_unicode_utf8_first)] }
def GridErasesSaid : Prop := gridErasesRow.holds Tryd.pinned (OpenSpec.ofChange gridErasesSpec)

/-- ITS FALSE NEIGHBOUR: 'it returns false'. Refute it at one input. -/
def gridErasesWrong : ChangeSpec := { name := "gridErases", fn := fun _ => fun
  | [d1, d2, d3, d4, d5] => { results := [.lit (.bool false)], args := [d1, d2, d3, d4, d5] }
  | _ => none }
def GridErasesWrongFalsely : Prop := gridErasesRow.holds Tryd.pinned (OpenSpec.ofChange gridErasesWrong)

/-- 'portholelaw21.GridStyles': WHATEVER THE INPUT: true; the input reads as it did. -/
def gridStylesSpec : ChangeSpec := { name := "gridStyles", fn := fun _ => fun
  | [d] => { results := [.lit (.bool true)], args := [d] }
  | _ => none }
def gridStylesRow : OpenClaim := { program := "ytjmiehbiindjdaadoor", sum := "746a58b4b3f7a67f55fcea27769d394aa1a9511be31c6e7492a7f8dcdc3a3d4f", func := "porthole/portholelaw21.GridStyles", spec := "gridStyles", inPlace := ["internal/bytealg.IndexByteString", "internal/bytealg.IndexString"], recurses := true, named := ["unicode/utf8.first", "unicode/utf8.acceptRanges", "internal/bytealg.MaxLen"], apart := false, laid := [("unicode/utf8.acceptRanges", laid_unicode_utf8_acceptRanges), ("unicode/utf8.first", laid_unicode_utf8_first)] }
def GridStylesSaid : Prop := gridStylesRow.holds Tryd.pinned (OpenSpec.ofChange gridStylesSpec)

/-- ITS FALSE NEIGHBOUR: 'it returns false'. Refute it at one input. -/
def gridStylesWrong : ChangeSpec := { name := "gridStyles", fn := fun _ => fun
  | [d] => { results := [.lit (.bool false)], args := [d] }
  | _ => none }
def GridStylesWrongFalsely : Prop := gridStylesRow.holds Tryd.pinned (OpenSpec.ofChange gridStylesWrong)

/-- 'portholelaw21.GridAway': WHATEVER THE INPUT: true; the input reads as it did. -/
def gridAwaySpec : ChangeSpec := { name := "gridAway", fn := fun _ => fun
  | [d1, d2, d3, d4] => { results := [.lit (.bool true)], args := [d1, d2, d3, d4] }
  | _ => none }
def gridAwayRow : OpenClaim := { program := "ytjmiehbiindjdaadoor", sum := "746a58b4b3f7a67f55fcea27769d394aa1a9511be31c6e7492a7f8dcdc3a3d4f", func := "porthole/portholelaw21.GridAway", spec := "gridAway", inPlace := ["internal/bytealg.IndexByteString", "internal/bytealg.IndexString"], recurses := true, named := ["unicode/utf8.first", "unicode/utf8.acceptRanges", "porthole/portholehand.parts", "porthole/portholehand.more", "internal/bytealg.MaxLen"], apart := false, laid := [("unicode/utf8.acceptRanges", laid_unicode_utf8_acceptRanges), ("porthole/portholehand.parts", laid_porthole_portholehand_parts), ("porthole/portholehand.more", laid_porthole_portholehand_more), ("unicode/utf8.first", laid_unicode_utf8_first)] }
def GridAwaySaid : Prop := gridAwayRow.holds Tryd.pinned (OpenSpec.ofChange gridAwaySpec)

/-- ITS FALSE NEIGHBOUR: 'it returns false'. Refute it at one input. -/
def gridAwayWrong : ChangeSpec := { name := "gridAway", fn := fun _ => fun
  | [d1, d2, d3, d4] => { results := [.lit (.bool false)], args := [d1, d2, d3, d4] }
  | _ => none }
def GridAwayWrongFalsely : Prop := gridAwayRow.holds Tryd.pinned (OpenSpec.ofChange gridAwayWrong)

/-- 'portholelaw21.GridRegion': WHATEVER THE INPUT: true; the input reads as it did. -/
def gridRegionSpec : ChangeSpec := { name := "gridRegion", fn := fun _ => fun
  | [d1, d2, d3] => { results := [.lit (.bool true)], args := [d1, d2, d3] }
  | _ => none }
def gridRegionRow : OpenClaim := { program := "ytjmiehbiindjdaadoor", sum := "746a58b4b3f7a67f55fcea27769d394aa1a9511be31c6e7492a7f8dcdc3a3d4f", func := "porthole/portholelaw21.GridRegion", spec := "gridRegion", inPlace := ["internal/bytealg.IndexByteString", "internal/bytealg.IndexString"], recurses := true, named := ["unicode/utf8.first", "unicode/utf8.acceptRanges", "internal/bytealg.MaxLen"], apart := false, laid := [("unicode/utf8.acceptRanges", laid_unicode_utf8_acceptRanges), ("unicode/utf8.first", laid_unicode_utf8_first)] }
def GridRegionSaid : Prop := gridRegionRow.holds Tryd.pinned (OpenSpec.ofChange gridRegionSpec)

/-- ITS FALSE NEIGHBOUR: 'it returns false'. Refute it at one input. -/
def gridRegionWrong : ChangeSpec := { name := "gridRegion", fn := fun _ => fun
  | [d1, d2, d3] => { results := [.lit (.bool false)], args := [d1, d2, d3] }
  | _ => none }
def GridRegionWrongFalsely : Prop := gridRegionRow.holds Tryd.pinned (OpenSpec.ofChange gridRegionWrong)

/-- 'portholelaw21.GridWraps': WHATEVER THE INPUT: true; the input reads as it did. -/
def gridWrapsSpec : ChangeSpec := { name := "gridWraps", fn := fun _ => fun
  | [d1, d2] => { results := [.lit (.bool true)], args := [d1, d2] }
  | _ => none }
def gridWrapsRow : OpenClaim := { program := "ytjmiehbiindjdaadoor", sum := "746a58b4b3f7a67f55fcea27769d394aa1a9511be31c6e7492a7f8dcdc3a3d4f", func := "porthole/portholelaw21.GridWraps", spec := "gridWraps", inPlace := ["internal/bytealg.IndexByteString", "internal/bytealg.IndexString"], named := ["unicode/utf8.first", "unicode/utf8.acceptRanges", "internal/bytealg.MaxLen"], apart := false, laid := [("unicode/utf8.acceptRanges", laid_unicode_utf8_acceptRanges), ("unicode/utf8.first", laid_unicode_utf8_first)] }
def GridWrapsSaid : Prop := gridWrapsRow.holds Tryd.pinned (OpenSpec.ofChange gridWrapsSpec)

/-- ITS FALSE NEIGHBOUR: 'it returns false'. Refute it at one input. -/
def gridWrapsWrong : ChangeSpec := { name := "gridWraps", fn := fun _ => fun
  | [d1, d2] => { results := [.lit (.bool false)], args := [d1, d2] }
  | _ => none }
def GridWrapsWrongFalsely : Prop := gridWrapsRow.holds Tryd.pinned (OpenSpec.ofChange gridWrapsWrong)

/-- 'portholelaw21.GridShape': WHATEVER THE INPUT: true; the input reads as it did. -/
def gridShapeSpec : ChangeSpec := { name := "gridShape", fn := fun _ => fun
  | [d1, d2, d3, d4, d5] => { results := [.lit (.bool true)], args := [d1, d2, d3, d4, d5] }
  | _ => none }
def gridShapeRow : OpenClaim := { program := "ytjmiehbiindjdaadoor", sum := "746a58b4b3f7a67f55fcea27769d394aa1a9511be31c6e7492a7f8dcdc3a3d4f", func := "porthole/portholelaw21.GridShape", spec := "gridShape", inPlace := ["internal/bytealg.IndexByteString", "internal/bytealg.IndexString"], recurses := true, named := ["unicode/utf8.first", "unicode/utf8.acceptRanges", "porthole/portholehand.parts", "porthole/portholehand.more", "internal/bytealg.MaxLen"], apart := false, laid := [("unicode/utf8.acceptRanges", laid_unicode_utf8_acceptRanges), ("porthole/portholehand.parts", laid_porthole_portholehand_parts), ("porthole/portholehand.more", laid_porthole_portholehand_more), ("unicode/utf8.first", laid_unicode_utf8_first)] }
def GridShapeSaid : Prop := gridShapeRow.holds Tryd.pinned (OpenSpec.ofChange gridShapeSpec)

/-- ITS FALSE NEIGHBOUR: 'it returns false'. Refute it at one input. -/
def gridShapeWrong : ChangeSpec := { name := "gridShape", fn := fun _ => fun
  | [d1, d2, d3, d4, d5] => { results := [.lit (.bool false)], args := [d1, d2, d3, d4, d5] }
  | _ => none }
def GridShapeWrongFalsely : Prop := gridShapeRow.holds Tryd.pinned (OpenSpec.ofChange gridShapeWrong)

/-- 'portholelaw21.GridSizes': WHATEVER THE INPUT: true; the input reads as it did. -/
def gridSizesSpec : ChangeSpec := { name := "gridSizes", fn := fun _ => fun
  | [d1, d2, d3, d4, d5] => { results := [.lit (.bool true)], args := [d1, d2, d3, d4, d5] }
  | _ => none }
def gridSizesRow : OpenClaim := { program := "ytjmiehbiindjdaadoor", sum := "746a58b4b3f7a67f55fcea27769d394aa1a9511be31c6e7492a7f8dcdc3a3d4f", func := "porthole/portholelaw21.GridSizes", spec := "gridSizes", inPlace := ["internal/bytealg.IndexByteString", "internal/bytealg.IndexString"], recurses := true, named := ["unicode/utf8.first", "unicode/utf8.acceptRanges", "porthole/portholehand.parts", "porthole/portholehand.more", "internal/bytealg.MaxLen"], apart := false, laid := [("unicode/utf8.acceptRanges", laid_unicode_utf8_acceptRanges), ("porthole/portholehand.parts", laid_porthole_portholehand_parts), ("porthole/portholehand.more", laid_porthole_portholehand_more), ("unicode/utf8.first", laid_unicode_utf8_first)] }
def GridSizesSaid : Prop := gridSizesRow.holds Tryd.pinned (OpenSpec.ofChange gridSizesSpec)

/-- ITS FALSE NEIGHBOUR: 'it returns false'. Refute it at one input. -/
def gridSizesWrong : ChangeSpec := { name := "gridSizes", fn := fun _ => fun
  | [d1, d2, d3, d4, d5] => { results := [.lit (.bool false)], args := [d1, d2, d3, d4, d5] }
  | _ => none }
def GridSizesWrongFalsely : Prop := gridSizesRow.holds Tryd.pinned (OpenSpec.ofChange gridSizesWrong)

/-- 'portholelaw21.GridKnown': WHATEVER THE INPUT: true; the input reads as it did. -/
def gridKnownSpec : ChangeSpec := { name := "gridKnown", fn := fun _ => fun
  | [] => { results := [.lit (.bool true)], args := [] }
  | _ => none }
def gridKnownRow : OpenClaim := { program := "ytjmiehbiindjdaadoor", sum := "746a58b4b3f7a67f55fcea27769d394aa1a9511be31c6e7492a7f8dcdc3a3d4f", func := "porthole/portholelaw21.GridKnown", spec := "gridKnown", inPlace := ["internal/bytealg.IndexByteString", "internal/bytealg.IndexString"], named := ["unicode/utf8.first", "unicode/utf8.acceptRanges", "internal/bytealg.MaxLen"], apart := false, laid := [("unicode/utf8.acceptRanges", laid_unicode_utf8_acceptRanges), ("unicode/utf8.first", laid_unicode_utf8_first)] }
def GridKnownSaid : Prop := gridKnownRow.holds Tryd.pinned (OpenSpec.ofChange gridKnownSpec)

/-- ITS FALSE NEIGHBOUR: 'it returns false'. Refute it at one input. -/
def gridKnownWrong : ChangeSpec := { name := "gridKnown", fn := fun _ => fun
  | [] => { results := [.lit (.bool false)], args := [] }
  | _ => none }
def GridKnownWrongFalsely : Prop := gridKnownRow.holds Tryd.pinned (OpenSpec.ofChange gridKnownWrong)

/- THE SECOND FORM. 'bulk': how many values and letters a reading holds, each counted each time it is reached (what is shared counts as often as it is met; a slice's spare places count too). A statement '..UptoSaid' is the law's where the arguments, and the package variables that the reading takes, are together of bulk at most 1048576: NARROWER than '..Said'. Prove '..Said' where nothing that the law and all that it calls make is longer than what came in: it says more and counts as full. Else prove '..UptoSaid'. A law counts once. -/
mutual
def uptoBulk {H : Type} : DataW H → Nat
  | .lit (.string bytes) => bytes.length + 1
  | .lit _ => 1
  | .nil => 1
  | .ptr d => uptoBulk d + 1
  | .slice elems spare => uptoBulkAll elems + uptoBulkAll spare + 1
  | .agg parts => uptoBulkAll parts + 1
  | .iface _ d => uptoBulk d + 1
  | .map entries => uptoBulkEntries entries + 1
  | .held _ => 1
def uptoBulkAll {H : Type} : List (DataW H) → Nat
  | [] => 0
  | d :: r => uptoBulk d + uptoBulkAll r
def uptoBulkEntries {H : Type} : List (Lit × DataW H) → Nat
  | [] => 0
  | x :: r => uptoBulkEntry x + uptoBulkEntries r
def uptoBulkEntry {H : Type} : Lit × DataW H → Nat
  | (.string bytes, d) => bytes.length + uptoBulk d + 1
  | (_, d) => uptoBulk d + 1
 end
def uptoSmall : (H : Type) → List (DataW H) → Bool := fun _ ds => decide (uptoBulkAll ds ≤ 1048576)
def OpenSpec.upto (s : _root_.Go.ChangeSpec) : _root_.Go.OpenSpec := { _root_.Go.OpenSpec.ofChange s with cond := some uptoSmall }

/-- 'portholelaw21.GridTexts', WHERE WHAT IT READS IS OF BULK AT MOST 1048576: true; the input reads as it did. -/
def gridTextsUptoRow : OpenClaim := { program := "ytjmiehbiindjdaadoor", sum := "746a58b4b3f7a67f55fcea27769d394aa1a9511be31c6e7492a7f8dcdc3a3d4f", func := "porthole/portholelaw21.GridTexts", spec := "gridTexts", inPlace := ["internal/bytealg.IndexByteString", "internal/bytealg.IndexString"], named := ["unicode/utf8.first", "unicode/utf8.acceptRanges", "internal/bytealg.MaxLen"], apart := false, laid := [("unicode/utf8.acceptRanges", laid_unicode_utf8_acceptRanges), ("unicode/utf8.first", laid_unicode_utf8_first)], narrowed := true }
def GridTextsUptoSaid : Prop := gridTextsUptoRow.holds Tryd.pinned (OpenSpec.upto gridTextsSpec)

/-- 'portholelaw21.GridPieces', WHERE WHAT IT READS IS OF BULK AT MOST 1048576: true; the input reads as it did. -/
def gridPiecesUptoRow : OpenClaim := { program := "ytjmiehbiindjdaadoor", sum := "746a58b4b3f7a67f55fcea27769d394aa1a9511be31c6e7492a7f8dcdc3a3d4f", func := "porthole/portholelaw21.GridPieces", spec := "gridPieces", inPlace := ["internal/bytealg.IndexByteString", "internal/bytealg.IndexString"], recurses := true, named := ["unicode/utf8.first", "unicode/utf8.acceptRanges", "porthole/portholehand.parts", "porthole/portholehand.more", "internal/bytealg.MaxLen"], apart := false, laid := [("unicode/utf8.acceptRanges", laid_unicode_utf8_acceptRanges), ("porthole/portholehand.parts", laid_porthole_portholehand_parts), ("porthole/portholehand.more", laid_porthole_portholehand_more), ("unicode/utf8.first", laid_unicode_utf8_first)], narrowed := true }
def GridPiecesUptoSaid : Prop := gridPiecesUptoRow.holds Tryd.pinned (OpenSpec.upto gridPiecesSpec)

/-- 'portholelaw21.GridMoves', WHERE WHAT IT READS IS OF BULK AT MOST 1048576: true; the input reads as it did. -/
def gridMovesUptoRow : OpenClaim := { program := "ytjmiehbiindjdaadoor", sum := "746a58b4b3f7a67f55fcea27769d394aa1a9511be31c6e7492a7f8dcdc3a3d4f", func := "porthole/portholelaw21.GridMoves", spec := "gridMoves", inPlace := ["internal/bytealg.IndexByteString", "internal/bytealg.IndexString"], unfollowed := true, recurses := true, named := ["unicode/utf8.first", "unicode/utf8.acceptRanges", "internal/bytealg.MaxLen"], apart := false, laid := [("unicode/utf8.acceptRanges", laid_unicode_utf8_acceptRanges), ("unicode/utf8.first", laid_unicode_utf8_first)], narrowed := true }
def GridMovesUptoSaid : Prop := gridMovesUptoRow.holds Tryd.pinned (OpenSpec.upto gridMovesSpec)

/-- 'portholelaw21.GridErases', WHERE WHAT IT READS IS OF BULK AT MOST 1048576: true; the input reads as it did. -/
def gridErasesUptoRow : OpenClaim := { program := "ytjmiehbiindjdaadoor", sum := "746a58b4b3f7a67f55fcea27769d394aa1a9511be31c6e7492a7f8dcdc3a3d4f", func := "porthole/portholelaw21.GridErases", spec := "gridErases", inPlace := ["internal/bytealg.IndexByteString", "internal/bytealg.IndexString"], recurses := true, named := ["unicode/utf8.first", "unicode/utf8.acceptRanges", "internal/bytealg.MaxLen"], apart := false, laid := [("unicode/utf8.acceptRanges", laid_unicode_utf8_acceptRanges), ("unicode/utf8.first", laid_unicode_utf8_first)], narrowed := true }
def GridErasesUptoSaid : Prop := gridErasesUptoRow.holds Tryd.pinned (OpenSpec.upto gridErasesSpec)

/-- 'portholelaw21.GridStyles', WHERE WHAT IT READS IS OF BULK AT MOST 1048576: true; the input reads as it did. -/
def gridStylesUptoRow : OpenClaim := { program := "ytjmiehbiindjdaadoor", sum := "746a58b4b3f7a67f55fcea27769d394aa1a9511be31c6e7492a7f8dcdc3a3d4f", func := "porthole/portholelaw21.GridStyles", spec := "gridStyles", inPlace := ["internal/bytealg.IndexByteString", "internal/bytealg.IndexString"], recurses := true, named := ["unicode/utf8.first", "unicode/utf8.acceptRanges", "internal/bytealg.MaxLen"], apart := false, laid := [("unicode/utf8.acceptRanges", laid_unicode_utf8_acceptRanges), ("unicode/utf8.first", laid_unicode_utf8_first)], narrowed := true }
def GridStylesUptoSaid : Prop := gridStylesUptoRow.holds Tryd.pinned (OpenSpec.upto gridStylesSpec)

/-- 'portholelaw21.GridAway', WHERE WHAT IT READS IS OF BULK AT MOST 1048576: true; the input reads as it did. -/
def gridAwayUptoRow : OpenClaim := { program := "ytjmiehbiindjdaadoor", sum := "746a58b4b3f7a67f55fcea27769d394aa1a9511be31c6e7492a7f8dcdc3a3d4f", func := "porthole/portholelaw21.GridAway", spec := "gridAway", inPlace := ["internal/bytealg.IndexByteString", "internal/bytealg.IndexString"], recurses := true, named := ["unicode/utf8.first", "unicode/utf8.acceptRanges", "porthole/portholehand.parts", "porthole/portholehand.more", "internal/bytealg.MaxLen"], apart := false, laid := [("unicode/utf8.acceptRanges", laid_unicode_utf8_acceptRanges), ("porthole/portholehand.parts", laid_porthole_portholehand_parts), ("porthole/portholehand.more", laid_porthole_portholehand_more), ("unicode/utf8.first", laid_unicode_utf8_first)], narrowed := true }
def GridAwayUptoSaid : Prop := gridAwayUptoRow.holds Tryd.pinned (OpenSpec.upto gridAwaySpec)

/-- 'portholelaw21.GridRegion', WHERE WHAT IT READS IS OF BULK AT MOST 1048576: true; the input reads as it did. -/
def gridRegionUptoRow : OpenClaim := { program := "ytjmiehbiindjdaadoor", sum := "746a58b4b3f7a67f55fcea27769d394aa1a9511be31c6e7492a7f8dcdc3a3d4f", func := "porthole/portholelaw21.GridRegion", spec := "gridRegion", inPlace := ["internal/bytealg.IndexByteString", "internal/bytealg.IndexString"], recurses := true, named := ["unicode/utf8.first", "unicode/utf8.acceptRanges", "internal/bytealg.MaxLen"], apart := false, laid := [("unicode/utf8.acceptRanges", laid_unicode_utf8_acceptRanges), ("unicode/utf8.first", laid_unicode_utf8_first)], narrowed := true }
def GridRegionUptoSaid : Prop := gridRegionUptoRow.holds Tryd.pinned (OpenSpec.upto gridRegionSpec)

/-- 'portholelaw21.GridWraps', WHERE WHAT IT READS IS OF BULK AT MOST 1048576: true; the input reads as it did. -/
def gridWrapsUptoRow : OpenClaim := { program := "ytjmiehbiindjdaadoor", sum := "746a58b4b3f7a67f55fcea27769d394aa1a9511be31c6e7492a7f8dcdc3a3d4f", func := "porthole/portholelaw21.GridWraps", spec := "gridWraps", inPlace := ["internal/bytealg.IndexByteString", "internal/bytealg.IndexString"], named := ["unicode/utf8.first", "unicode/utf8.acceptRanges", "internal/bytealg.MaxLen"], apart := false, laid := [("unicode/utf8.acceptRanges", laid_unicode_utf8_acceptRanges), ("unicode/utf8.first", laid_unicode_utf8_first)], narrowed := true }
def GridWrapsUptoSaid : Prop := gridWrapsUptoRow.holds Tryd.pinned (OpenSpec.upto gridWrapsSpec)

/-- 'portholelaw21.GridShape', WHERE WHAT IT READS IS OF BULK AT MOST 1048576: true; the input reads as it did. -/
def gridShapeUptoRow : OpenClaim := { program := "ytjmiehbiindjdaadoor", sum := "746a58b4b3f7a67f55fcea27769d394aa1a9511be31c6e7492a7f8dcdc3a3d4f", func := "porthole/portholelaw21.GridShape", spec := "gridShape", inPlace := ["internal/bytealg.IndexByteString", "internal/bytealg.IndexString"], recurses := true, named := ["unicode/utf8.first", "unicode/utf8.acceptRanges", "porthole/portholehand.parts", "porthole/portholehand.more", "internal/bytealg.MaxLen"], apart := false, laid := [("unicode/utf8.acceptRanges", laid_unicode_utf8_acceptRanges), ("porthole/portholehand.parts", laid_porthole_portholehand_parts), ("porthole/portholehand.more", laid_porthole_portholehand_more), ("unicode/utf8.first", laid_unicode_utf8_first)], narrowed := true }
def GridShapeUptoSaid : Prop := gridShapeUptoRow.holds Tryd.pinned (OpenSpec.upto gridShapeSpec)

/-- 'portholelaw21.GridSizes', WHERE WHAT IT READS IS OF BULK AT MOST 1048576: true; the input reads as it did. -/
def gridSizesUptoRow : OpenClaim := { program := "ytjmiehbiindjdaadoor", sum := "746a58b4b3f7a67f55fcea27769d394aa1a9511be31c6e7492a7f8dcdc3a3d4f", func := "porthole/portholelaw21.GridSizes", spec := "gridSizes", inPlace := ["internal/bytealg.IndexByteString", "internal/bytealg.IndexString"], recurses := true, named := ["unicode/utf8.first", "unicode/utf8.acceptRanges", "porthole/portholehand.parts", "porthole/portholehand.more", "internal/bytealg.MaxLen"], apart := false, laid := [("unicode/utf8.acceptRanges", laid_unicode_utf8_acceptRanges), ("porthole/portholehand.parts", laid_porthole_portholehand_parts), ("porthole/portholehand.more", laid_porthole_portholehand_more), ("unicode/utf8.first", laid_unicode_utf8_first)], narrowed := true }
def GridSizesUptoSaid : Prop := gridSizesUptoRow.holds Tryd.pinned (OpenSpec.upto gridSizesSpec)

/-- 'portholelaw21.GridKnown', WHERE WHAT IT READS IS OF BULK AT MOST 1048576: true; the input reads as it did. -/
def gridKnownUptoRow : OpenClaim := { program := "ytjmiehbiindjdaadoor", sum := "746a58b4b3f7a67f55fcea27769d394aa1a9511be31c6e7492a7f8dcdc3a3d4f", func := "porthole/portholelaw21.GridKnown", spec := "gridKnown", inPlace := ["internal/bytealg.IndexByteString", "internal/bytealg.IndexString"], named := ["unicode/utf8.first", "unicode/utf8.acceptRanges", "internal/bytealg.MaxLen"], apart := false, laid := [("unicode/utf8.acceptRanges", laid_unicode_utf8_acceptRanges), ("unicode/utf8.first", laid_unicode_utf8_first)], narrowed := true }
def GridKnownUptoSaid : Prop := gridKnownUptoRow.holds Tryd.pinned (OpenSpec.upto gridKnownSpec)

end Rows
end Go.Proofs.YtjmiehbiindjdaaDoor
