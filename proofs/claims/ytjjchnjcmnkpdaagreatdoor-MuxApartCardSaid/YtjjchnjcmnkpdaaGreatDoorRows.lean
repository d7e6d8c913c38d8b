/-
  NARROWER THAN 'FOR EVERY INPUT', by the rows' own cells (each row's printed sentence says how): MuxApart: laid · MuxZooms: laid · CmdSessions: laid · CmdRuns: laid.
  DERIVED. THE GIVEN ROWS OF THIS SEAT. 4 by the template 'for every input the law returns true; each argument reads behind the call as it read before'; 0 by the template 'total and deterministic' (their statements: YtjjchnjcmnkpdaaGreatDoorTotals.lean).
  GIVEN WITH THE SEED: the statements are not yours to turn. If you find one false, say at which input.
  Laid BY PROGRAM, IN A SANDBOX (cutbox-rows.mjs): the forced cells as the released guide's own fill.sh prints them over the translation f68c1911a399d2df… (all of the seat's roots in one cut). By AI agents, Wed Nov 11 2026. No macro, syntax, notation, axiom, sorry.
-/
import Derived.Test.YtjjchnjcmnkpdaaGreatDoorChecked
import GoSem.PinnedTables
import GoSem.Claim
import GoSem.ClaimJoined
import GoSem.ClaimMapViews
import Derived.JoinedTies
import Derived.KernelRfl
namespace Go.Proofs.YtjjchnjcmnkpdaaGreatDoor
/- THE CELL 'sum', in the pinned program and in every row, IS THE sha256 OF THE DUMP (.gsa) THAT YtjjchnjcmnkpdaaGreatDoorProg.lean LOADS. Nothing in Lean hashes anything: it is a label: what it is worth is what the hold of that sum in a sandbox is worth. -/
noncomputable def Tryz.pinned : Pinned := { name := "ytjjchnjcmnkpdaagreatdoor", sum := "f68c1911a399d2df9aa4b79977b5e0d1dfd921ea26dd8e1a7d51cd8d7a4bda4c", checked := Tryz.checked }
namespace Rows
def none {H : Type} : Left H := { results := [], args := [] }

/- WHAT THE LISTED PACKAGE-LEVEL VARIABLES READ AS WHEN THE CALL BEGINS. Each datum BY PROGRAM (the guide's laid-datum.mjs) off the statement by which the dump's own 'gosem.cut.vars' lays the variable. In a bare row this is a premise. The card (YtjjchnjcmnkpdaaGreatDoorCards.lean) ties it to the program's text. -/
def laid_math_bits_deBruijn32tab {H : Type} : DataW H := .agg [.lit (.int .u8 0), .lit (.int .u8 1), .lit (.int .u8 28), .lit (.int .u8 2), .lit (.int .u8 29), .lit (.int .u8 14), .lit (.int .u8 24), .lit (.int .u8 3), .lit (.int .u8 30), .lit (.int .u8 22), .lit (.int .u8 20), .lit (.int .u8 15), .lit (.int .u8 25), .lit (.int .u8 17), .lit (.int .u8 4), .lit (.int .u8 8), .lit (.int .u8 31), .lit (.int .u8 27), .lit (.int .u8 13), .lit (.int .u8 23), .lit (.int .u8 21), .lit (.int .u8 19), .lit (.int .u8 16), .lit (.int .u8 7), .lit (.int .u8 26), .lit (.int .u8 12), .lit (.int .u8 18), .lit (.int .u8 6), .lit (.int .u8 11), .lit (.int .u8 5), .lit (.int .u8 10), .lit (.int .u8 9)]
def laid_math_bits_deBruijn64tab {H : Type} : DataW H := .agg [.lit (.int .u8 0), .lit (.int .u8 1), .lit (.int .u8 56), .lit (.int .u8 2), .lit (.int .u8 57), .lit (.int .u8 49), .lit (.int .u8 28), .lit (.int .u8 3), .lit (.int .u8 61), .lit (.int .u8 58), .lit (.int .u8 42), .lit (.int .u8 50), .lit (.int .u8 38), .lit (.int .u8 29), .lit (.int .u8 17), .lit (.int .u8 4), .lit (.int .u8 62), .lit (.int .u8 47), .lit (.int .u8 59), .lit (.int .u8 36), .lit (.int .u8 45), .lit (.int .u8 43), .lit (.int .u8 51), .lit (.int .u8 22), .lit (.int .u8 53), .lit (.int .u8 39), .lit (.int .u8 33), .lit (.int .u8 30), .lit (.int .u8 24), .lit (.int .u8 18), .lit (.int .u8 12), .lit (.int .u8 5), .lit (.int .u8 63), .lit (.int .u8 55), .lit (.int .u8 48), .lit (.int .u8 27), .lit (.int .u8 60), .lit (.int .u8 41), .lit (.int .u8 37), .lit (.int .u8 16), .lit (.int .u8 46), .lit (.int .u8 35), .lit (.int .u8 44), .lit (.int .u8 21), .lit (.int .u8 52), .lit (.int .u8 32), .lit (.int .u8 23), .lit (.int .u8 11), .lit (.int .u8 54), .lit (.int .u8 26), .lit (.int .u8 40), .lit (.int .u8 15), .lit (.int .u8 34), .lit (.int .u8 20), .lit (.int .u8 31), .lit (.int .u8 10), .lit (.int .u8 25), .lit (.int .u8 14), .lit (.int .u8 19), .lit (.int .u8 9), .lit (.int .u8 13), .lit (.int .u8 8), .lit (.int .u8 7), .lit (.int .u8 6)]
def laid_internal_strconv_uint64pow10 {H : Type} : DataW H := .agg [.lit (.int .u64 1), .lit (.int .u64 10), .lit (.int .u64 100), .lit (.int .u64 1000), .lit (.int .u64 10000), .lit (.int .u64 100000), .lit (.int .u64 1000000), .lit (.int .u64 10000000), .lit (.int .u64 100000000), .lit (.int .u64 1000000000), .lit (.int .u64 10000000000), .lit (.int .u64 100000000000), .lit (.int .u64 1000000000000), .lit (.int .u64 10000000000000), .lit (.int .u64 100000000000000), .lit (.int .u64 1000000000000000), .lit (.int .u64 10000000000000000), .lit (.int .u64 100000000000000000), .lit (.int .u64 1000000000000000000), .lit (.int .u64 10000000000000000000)]
def laid_unicode_utf8_acceptRanges {H : Type} : DataW H := .agg [.agg [.lit (.int .u8 128), .lit (.int .u8 191)], .agg [.lit (.int .u8 160), .lit (.int .u8 191)], .agg [.lit (.int .u8 128), .lit (.int .u8 159)], .agg [.lit (.int .u8 144), .lit (.int .u8 191)], .agg [.lit (.int .u8 128), .lit (.int .u8 143)], .agg [.lit (.int .u8 0), .lit (.int .u8 0)], .agg [.lit (.int .u8 0), .lit (.int .u8 0)], .agg [.lit (.int .u8 0), .lit (.int .u8 0)], .agg [.lit (.int .u8 0), .lit (.int .u8 0)], .agg [.lit (.int .u8 0), .lit (.int .u8 0)], .agg [.lit (.int .u8 0), .lit (.int .u8 0)], .agg [.lit (.int .u8 0), .lit (.int .u8 0)], .agg [.lit (.int .u8 0), .lit (.int .u8 0)], .agg [.lit (.int .u8 0), .lit (.int .u8 0)], .agg [.lit (.int .u8 0), .lit (.int .u8 0)], .agg [.lit (.int .u8 0), .lit (.int .u8 0)]]
def laid_porthole_portholehand_parts {H : Type} : DataW H := .agg [.lit (.string [97]), .lit (.string [66, 99]), .lit (.string [120, 121, 122]), .lit (.string [195, 169]), .lit (.string [226, 130, 172]), .lit (.string [13, 10]), .lit (.string [10]), .lit (.string [13]), .lit (.string [8]), .lit (.string [9]), .lit (.string [27, 91, 65]), .lit (.string [27, 91, 50, 66]), .lit (.string [27, 91, 51, 67]), .lit (.string [27, 91, 68]), .lit (.string [27, 91, 72]), .lit (.string [27, 91, 50, 59, 51, 72]), .lit (.string [27, 91, 74]), .lit (.string [27, 91, 49, 74]), .lit (.string [27, 91, 50, 74]), .lit (.string [27, 91, 75]), .lit (.string [27, 91, 49, 75]), .lit (.string [27, 91, 76]), .lit (.string [27, 91, 77]), .lit (.string [27, 91, 50, 64]), .lit (.string [27, 91, 80]), .lit (.string [27, 91, 88]), .lit (.string [27, 91, 83]), .lit (.string [27, 91, 84]), .lit (.string [27, 91, 49, 59, 51, 49, 109]), .lit (.string [27, 91, 48, 109]), .lit (.string [27, 77]), .lit (.string [27, 55]), .lit (.string [27, 56]), .lit (.string [27, 91, 63, 49, 48, 52, 57, 104])]
def laid_porthole_portholehand_more {H : Type} : DataW H := .agg [.lit (.string [27, 91, 63, 49, 48, 52, 57, 108]), .lit (.string [27, 91, 63, 55, 108]), .lit (.string [27, 91, 63, 55, 104]), .lit (.string [27, 91, 63, 50, 53, 108]), .lit (.string [27, 91, 63, 50, 53, 104]), .lit (.string [27, 91, 52, 104]), .lit (.string [27, 91, 52, 108]), .lit (.string [27, 72]), .lit (.string [27, 91, 103]), .lit (.string [27, 91, 51, 103]), .lit (.string [27, 99]), .lit (.string [27, 68]), .lit (.string [27, 69]), .lit (.string [27, 93, 48, 59, 116, 7]), .lit (.string [27, 40, 66]), .lit (.string [27, 91, 57, 57, 59, 57, 57, 72]), .lit (.string [27, 91, 51, 74]), .lit (.string [27, 91, 55, 59, 52, 50, 109]), .lit (.string [27, 91, 51, 57, 59, 52, 57, 109]), .lit (.string [255]), .lit (.string [226, 130]), .lit (.string [27, 91, 53, 71])]
/-- One of Go's own tables, pinned by name: the form's constant. -/
def laid_unicode_utf8_first : DataW Unit := Go.Pinned.utf8First
def laid_strconv_ErrRange {H : Type} : DataW H := .iface "*errors.errorString" (.ptr (.agg [.lit (.string [118, 97, 108, 117, 101, 32, 111, 117, 116, 32, 111, 102, 32, 114, 97, 110, 103, 101])]))
def laid_strconv_ErrSyntax {H : Type} : DataW H := .iface "*errors.errorString" (.ptr (.agg [.lit (.string [105, 110, 118, 97, 108, 105, 100, 32, 115, 121, 110, 116, 97, 120])]))

/-- 'portholelaw23.MuxApart': WHATEVER THE INPUT: true; the input reads as it did. -/
def muxApartSpec : ChangeSpec := { name := "muxApart", fn := fun _ => fun
  | [d1, d2, d3] => { results := [.lit (.bool true)], args := [d1, d2, d3] }
  | _ => none }
def muxApartRow : OpenClaim := { program := "ytjjchnjcmnkpdaagreatdoor", sum := "f68c1911a399d2df9aa4b79977b5e0d1dfd921ea26dd8e1a7d51cd8d7a4bda4c", func := "porthole/portholelaw23.MuxApart", spec := "muxApart", unfollowed := true, recurses := true, named := ["internal/strconv.uint64pow10", "math/bits.deBruijn32tab", "math/bits.deBruijn64tab", "porthole/portholehand.parts", "porthole/portholehand.more", "unicode/utf8.first", "unicode/utf8.acceptRanges"], apart := false, laid := [("math/bits.deBruijn32tab", laid_math_bits_deBruijn32tab), ("math/bits.deBruijn64tab", laid_math_bits_deBruijn64tab), ("internal/strconv.uint64pow10", laid_internal_strconv_uint64pow10), ("unicode/utf8.acceptRanges", laid_unicode_utf8_acceptRanges), ("porthole/portholehand.parts", laid_porthole_portholehand_parts), ("porthole/portholehand.more", laid_porthole_portholehand_more), ("unicode/utf8.first", laid_unicode_utf8_first)] }
def MuxApartSaid : Prop := muxApartRow.holds Tryz.pinned (OpenSpec.ofChange muxApartSpec)

/-- ITS FALSE NEIGHBOUR: 'it returns false'. Refute it at one input. -/
def muxApartWrong : ChangeSpec := { name := "muxApart", fn := fun _ => fun
  | [d1, d2, d3] => { results := [.lit (.bool false)], args := [d1, d2, d3] }
  | _ => none }
def MuxApartWrongFalsely : Prop := muxApartRow.holds Tryz.pinned (OpenSpec.ofChange muxApartWrong)

/-- 'portholelaw23.MuxZooms': WHATEVER THE INPUT: true; the input reads as it did. -/
def muxZoomsSpec : ChangeSpec := { name := "muxZooms", fn := fun _ => fun
  | [d1, d2, d3, d4] => { results := [.lit (.bool true)], args := [d1, d2, d3, d4] }
  | _ => none }
def muxZoomsRow : OpenClaim := { program := "ytjjchnjcmnkpdaagreatdoor", sum := "f68c1911a399d2df9aa4b79977b5e0d1dfd921ea26dd8e1a7d51cd8d7a4bda4c", func := "porthole/portholelaw23.MuxZooms", spec := "muxZooms", unfollowed := true, recurses := true, named := ["internal/strconv.uint64pow10", "math/bits.deBruijn32tab", "math/bits.deBruijn64tab", "porthole/portholehand.parts", "porthole/portholehand.more", "unicode/utf8.first", "unicode/utf8.acceptRanges"], apart := false, laid := [("math/bits.deBruijn32tab", laid_math_bits_deBruijn32tab), ("math/bits.deBruijn64tab", laid_math_bits_deBruijn64tab), ("internal/strconv.uint64pow10", laid_internal_strconv_uint64pow10), ("unicode/utf8.acceptRanges", laid_unicode_utf8_acceptRanges), ("porthole/portholehand.parts", laid_porthole_portholehand_parts), ("porthole/portholehand.more", laid_porthole_portholehand_more), ("unicode/utf8.first", laid_unicode_utf8_first)] }
def MuxZoomsSaid : Prop := muxZoomsRow.holds Tryz.pinned (OpenSpec.ofChange muxZoomsSpec)

/-- ITS FALSE NEIGHBOUR: 'it returns false'. Refute it at one input. -/
def muxZoomsWrong : ChangeSpec := { name := "muxZooms", fn := fun _ => fun
  | [d1, d2, d3, d4] => { results := [.lit (.bool false)], args := [d1, d2, d3, d4] }
  | _ => none }
def MuxZoomsWrongFalsely : Prop := muxZoomsRow.holds Tryz.pinned (OpenSpec.ofChange muxZoomsWrong)

/-- 'portholelaw24.CmdSessions': WHATEVER THE INPUT: true; the input reads as it did. -/
def cmdSessionsSpec : ChangeSpec := { name := "cmdSessions", fn := fun _ => fun
  | [d] => { results := [.lit (.bool true)], args := [d] }
  | _ => none }
def cmdSessionsRow : OpenClaim := { program := "ytjjchnjcmnkpdaagreatdoor", sum := "f68c1911a399d2df9aa4b79977b5e0d1dfd921ea26dd8e1a7d51cd8d7a4bda4c", func := "porthole/portholelaw24.CmdSessions", spec := "cmdSessions", inPlace := ["internal/bytealg.IndexByteString", "internal/bytealg.IndexString", "internal/abi.NoEscape", "internal/bytealg.MakeNoZero"], unfollowed := true, recurses := true, named := ["internal/strconv.uint64pow10", "math/bits.deBruijn32tab", "math/bits.deBruijn64tab", "strconv.ErrSyntax", "strconv.ErrRange", "unicode/utf8.first", "unicode/utf8.acceptRanges", "internal/bytealg.MaxLen"], apart := false, laid := [("math/bits.deBruijn32tab", laid_math_bits_deBruijn32tab), ("math/bits.deBruijn64tab", laid_math_bits_deBruijn64tab), ("internal/strconv.uint64pow10", laid_internal_strconv_uint64pow10), ("unicode/utf8.acceptRanges", laid_unicode_utf8_acceptRanges), ("strconv.ErrRange", laid_strconv_ErrRange), ("strconv.ErrSyntax", laid_strconv_ErrSyntax), ("unicode/utf8.first", laid_unicode_utf8_first)] }
def CmdSessionsSaid : Prop := cmdSessionsRow.holds Tryz.pinned (OpenSpec.ofChange cmdSessionsSpec)

/-- ITS FALSE NEIGHBOUR: 'it returns false'. Refute it at one input. -/
def cmdSessionsWrong : ChangeSpec := { name := "cmdSessions", fn := fun _ => fun
  | [d] => { results := [.lit (.bool false)], args := [d] }
  | _ => none }
def CmdSessionsWrongFalsely : Prop := cmdSessionsRow.holds Tryz.pinned (OpenSpec.ofChange cmdSessionsWrong)

/-- 'portholelaw24.CmdRuns': WHATEVER THE INPUT: true; the input reads as it did. -/
def cmdRunsSpec : ChangeSpec := { name := "cmdRuns", fn := fun _ => fun
  | [d1, d2] => { results := [.lit (.bool true)], args := [d1, d2] }
  | _ => none }
def cmdRunsRow : OpenClaim := { program := "ytjjchnjcmnkpdaagreatdoor", sum := "f68c1911a399d2df9aa4b79977b5e0d1dfd921ea26dd8e1a7d51cd8d7a4bda4c", func := "porthole/portholelaw24.CmdRuns", spec := "cmdRuns", inPlace := ["internal/bytealg.IndexByteString", "internal/bytealg.IndexString", "internal/abi.NoEscape", "internal/bytealg.MakeNoZero"], unfollowed := true, recurses := true, named := ["strconv.ErrSyntax", "strconv.ErrRange", "internal/strconv.uint64pow10", "math/bits.deBruijn32tab", "math/bits.deBruijn64tab", "unicode/utf8.first", "unicode/utf8.acceptRanges", "internal/bytealg.MaxLen"], apart := false, laid := [("math/bits.deBruijn32tab", laid_math_bits_deBruijn32tab), ("math/bits.deBruijn64tab", laid_math_bits_deBruijn64tab), ("internal/strconv.uint64pow10", laid_internal_strconv_uint64pow10), ("unicode/utf8.acceptRanges", laid_unicode_utf8_acceptRanges), ("strconv.ErrRange", laid_strconv_ErrRange), ("strconv.ErrSyntax", laid_strconv_ErrSyntax), ("unicode/utf8.first", laid_unicode_utf8_first)] }
def CmdRunsSaid : Prop := cmdRunsRow.holds Tryz.pinned (OpenSpec.ofChange cmdRunsSpec)

/-- ITS FALSE NEIGHBOUR: 'it returns false'. Refute it at one input. -/
def cmdRunsWrong : ChangeSpec := { name := "cmdRuns", fn := fun _ => fun
  | [d1, d2] => { results := [.lit (.bool false)], args := [d1, d2] }
  | _ => none }
def CmdRunsWrongFalsely : Prop := cmdRunsRow.holds Tryz.pinned (OpenSpec.ofChange cmdRunsWrong)

/- THE SECOND FORM. 'bulk': how many values and letters a reading holds, each counted each time it is reached (what is shared counts as often as it is met; a slice's spare places count too). A statement '..UptoSaid' is the law's where the arguments, and the package variables that the reading takes, are together of bulk at most 1048576: NARROWER than '..Said'. Prove '..Said' where nothing that the law and all that it calls make is longer than what came in: it says more and counts as full. Else prove '..UptoSaid'. A law counts once. -/
mutual
def uptoBulk {H : Type} : DataW H → Nat
  | .lit (.string bytes) => bytes.length + 1
  | .lit _ => 1
  | .nil => 1
  | .ptr d => uptoBulk d + 1
  | .slice elems spare => uptoBulkAll elems + uptoBulkAll spare + 1
  | .agg parts => uptoBulkAll parts + 1
  | .iface _ d => uptoBulk d + 1
  | .map entries => uptoBulkEntries entries + 1
  | .held _ => 1
def uptoBulkAll {H : Type} : List (DataW H) → Nat
  | [] => 0
  | d :: r => uptoBulk d + uptoBulkAll r
def uptoBulkEntries {H : Type} : List (Lit × DataW H) → Nat
  | [] => 0
  | x :: r => uptoBulkEntry x + uptoBulkEntries r
def uptoBulkEntry {H : Type} : Lit × DataW H → Nat
  | (.string bytes, d) => bytes.length + uptoBulk d + 1
  | (_, d) => uptoBulk d + 1
 end
def uptoSmall : (H : Type) → List (DataW H) → Bool := fun _ ds => decide (uptoBulkAll ds ≤ 1048576)
def OpenSpec.upto (s : _root_.Go.ChangeSpec) : _root_.Go.OpenSpec := { _root_.Go.OpenSpec.ofChange s with cond := some uptoSmall }

/-- 'portholelaw23.MuxApart', WHERE WHAT IT READS IS OF BULK AT MOST 1048576: true; the input reads as it did. -/
def muxApartUptoRow : OpenClaim := { program := "ytjjchnjcmnkpdaagreatdoor", sum := "f68c1911a399d2df9aa4b79977b5e0d1dfd921ea26dd8e1a7d51cd8d7a4bda4c", func := "porthole/portholelaw23.MuxApart", spec := "muxApart", unfollowed := true, recurses := true, named := ["internal/strconv.uint64pow10", "math/bits.deBruijn32tab", "math/bits.deBruijn64tab", "porthole/portholehand.parts", "porthole/portholehand.more", "unicode/utf8.first", "unicode/utf8.acceptRanges"], apart := false, laid := [("math/bits.deBruijn32tab", laid_math_bits_deBruijn32tab), ("math/bits.deBruijn64tab", laid_math_bits_deBruijn64tab), ("internal/strconv.uint64pow10", laid_internal_strconv_uint64pow10), ("unicode/utf8.acceptRanges", laid_unicode_utf8_acceptRanges), ("porthole/portholehand.parts", laid_porthole_portholehand_parts), ("porthole/portholehand.more", laid_porthole_portholehand_more), ("unicode/utf8.first", laid_unicode_utf8_first)], narrowed := true }
def MuxApartUptoSaid : Prop := muxApartUptoRow.holds Tryz.pinned (OpenSpec.upto muxApartSpec)

/-- 'portholelaw23.MuxZooms', WHERE WHAT IT READS IS OF BULK AT MOST 1048576: true; the input reads as it did. -/
def muxZoomsUptoRow : OpenClaim := { program := "ytjjchnjcmnkpdaagreatdoor", sum := "f68c1911a399d2df9aa4b79977b5e0d1dfd921ea26dd8e1a7d51cd8d7a4bda4c", func := "porthole/portholelaw23.MuxZooms", spec := "muxZooms", unfollowed := true, recurses := true, named := ["internal/strconv.uint64pow10", "math/bits.deBruijn32tab", "math/bits.deBruijn64tab", "porthole/portholehand.parts", "porthole/portholehand.more", "unicode/utf8.first", "unicode/utf8.acceptRanges"], apart := false, laid := [("math/bits.deBruijn32tab", laid_math_bits_deBruijn32tab), ("math/bits.deBruijn64tab", laid_math_bits_deBruijn64tab), ("internal/strconv.uint64pow10", laid_internal_strconv_uint64pow10), ("unicode/utf8.acceptRanges", laid_unicode_utf8_acceptRanges), ("porthole/portholehand.parts", laid_porthole_portholehand_parts), ("porthole/portholehand.more", laid_porthole_portholehand_more), ("unicode/utf8.first", laid_unicode_utf8_first)], narrowed := true }
def MuxZoomsUptoSaid : Prop := muxZoomsUptoRow.holds Tryz.pinned (OpenSpec.upto muxZoomsSpec)

/-- 'portholelaw24.CmdSessions', WHERE WHAT IT READS IS OF BULK AT MOST 1048576: true; the input reads as it did. -/
def cmdSessionsUptoRow : OpenClaim := { program := "ytjjchnjcmnkpdaagreatdoor", sum := "f68c1911a399d2df9aa4b79977b5e0d1dfd921ea26dd8e1a7d51cd8d7a4bda4c", func := "porthole/portholelaw24.CmdSessions", spec := "cmdSessions", inPlace := ["internal/bytealg.IndexByteString", "internal/bytealg.IndexString", "internal/abi.NoEscape", "internal/bytealg.MakeNoZero"], unfollowed := true, recurses := true, named := ["internal/strconv.uint64pow10", "math/bits.deBruijn32tab", "math/bits.deBruijn64tab", "strconv.ErrSyntax", "strconv.ErrRange", "unicode/utf8.first", "unicode/utf8.acceptRanges", "internal/bytealg.MaxLen"], apart := false, laid := [("math/bits.deBruijn32tab", laid_math_bits_deBruijn32tab), ("math/bits.deBruijn64tab", laid_math_bits_deBruijn64tab), ("internal/strconv.uint64pow10", laid_internal_strconv_uint64pow10), ("unicode/utf8.acceptRanges", laid_unicode_utf8_acceptRanges), ("strconv.ErrRange", laid_strconv_ErrRange), ("strconv.ErrSyntax", laid_strconv_ErrSyntax), ("unicode/utf8.first", laid_unicode_utf8_first)], narrowed := true }
def CmdSessionsUptoSaid : Prop := cmdSessionsUptoRow.holds Tryz.pinned (OpenSpec.upto cmdSessionsSpec)

/-- 'portholelaw24.CmdRuns', WHERE WHAT IT READS IS OF BULK AT MOST 1048576: true; the input reads as it did. -/
def cmdRunsUptoRow : OpenClaim := { program := "ytjjchnjcmnkpdaagreatdoor", sum := "f68c1911a399d2df9aa4b79977b5e0d1dfd921ea26dd8e1a7d51cd8d7a4bda4c", func := "porthole/portholelaw24.CmdRuns", spec := "cmdRuns", inPlace := ["internal/bytealg.IndexByteString", "internal/bytealg.IndexString", "internal/abi.NoEscape", "internal/bytealg.MakeNoZero"], unfollowed := true, recurses := true, named := ["strconv.ErrSyntax", "strconv.ErrRange", "internal/strconv.uint64pow10", "math/bits.deBruijn32tab", "math/bits.deBruijn64tab", "unicode/utf8.first", "unicode/utf8.acceptRanges", "internal/bytealg.MaxLen"], apart := false, laid := [("math/bits.deBruijn32tab", laid_math_bits_deBruijn32tab), ("math/bits.deBruijn64tab", laid_math_bits_deBruijn64tab), ("internal/strconv.uint64pow10", laid_internal_strconv_uint64pow10), ("unicode/utf8.acceptRanges", laid_unicode_utf8_acceptRanges), ("strconv.ErrRange", laid_strconv_ErrRange), ("strconv.ErrSyntax", laid_strconv_ErrSyntax), ("unicode/utf8.first", laid_unicode_utf8_first)], narrowed := true }
def CmdRunsUptoSaid : Prop := cmdRunsUptoRow.holds Tryz.pinned (OpenSpec.upto cmdRunsSpec)

end Rows
end Go.Proofs.YtjjchnjcmnkpdaaGreatDoor
