/-
  NARROWER THAN 'FOR EVERY INPUT', by the rows' own cells (each row's printed sentence says how): MuxViews: laid.
  DERIVED. THE GIVEN ROWS OF THIS SEAT. 1 by the template 'for every input the law returns true; each argument reads behind the call as it read before'; 0 by the template 'total and deterministic' (their statements: YtjjchnjcmnkpdaaDoorTotals.lean).
  GIVEN WITH THE SEED: the statements are not yours to turn. If you find one false, say at which input.
  Laid BY PROGRAM, IN A SANDBOX (cutbox-rows.mjs): the forced cells as the released guide's own fill.sh prints them over the translation 698e0b81aaabf24b… (all of the seat's roots in one cut). By AI agents, Wed Nov 11 2026. No macro, syntax, notation, axiom, sorry.
-/
import Derived.Test.YtjjchnjcmnkpdaaDoorChecked
import GoSem.PinnedTables
import GoSem.Claim
import GoSem.ClaimJoined
import GoSem.ClaimMapViews
import Derived.JoinedTies
import Derived.KernelRfl
namespace Go.Proofs.YtjjchnjcmnkpdaaDoor
/- THE CELL 'sum', in the pinned program and in every row, IS THE sha256 OF THE DUMP (.gsa) THAT YtjjchnjcmnkpdaaDoorProg.lean LOADS. Nothing in Lean hashes anything: it is a label: what it is worth is what the hold of that sum in a sandbox is worth. -/
noncomputable def Tryd.pinned : Pinned := { name := "ytjjchnjcmnkpdaadoor", sum := "698e0b81aaabf24b13252ac00c1c73c22faac28b8d969db48b4d7672a164ee0b", checked := Tryd.checked }
namespace Rows
def none {H : Type} : Left H := { results := [], args := [] }

/- WHAT THE LISTED PACKAGE-LEVEL VARIABLES READ AS WHEN THE CALL BEGINS. Each datum BY PROGRAM (the guide's laid-datum.mjs) off the statement by which the dump's own 'gosem.cut.vars' lays the variable. In a bare row this is a premise. The card (YtjjchnjcmnkpdaaDoorCards.lean) ties it to the program's text. -/
def laid_unicode_utf8_acceptRanges {H : Type} : DataW H := .agg [.agg [.lit (.int .u8 128), .lit (.int .u8 191)], .agg [.lit (.int .u8 160), .lit (.int .u8 191)], .agg [.lit (.int .u8 128), .lit (.int .u8 159)], .agg [.lit (.int .u8 144), .lit (.int .u8 191)], .agg [.lit (.int .u8 128), .lit (.int .u8 143)], .agg [.lit (.int .u8 0), .lit (.int .u8 0)], .agg [.lit (.int .u8 0), .lit (.int .u8 0)], .agg [.lit (.int .u8 0), .lit (.int .u8 0)], .agg [.lit (.int .u8 0), .lit (.int .u8 0)], .agg [.lit (.int .u8 0), .lit (.int .u8 0)], .agg [.lit (.int .u8 0), .lit (.int .u8 0)], .agg [.lit (.int .u8 0), .lit (.int .u8 0)], .agg [.lit (.int .u8 0), .lit (.int .u8 0)], .agg [.lit (.int .u8 0), .lit (.int .u8 0)], .agg [.lit (.int .u8 0), .lit (.int .u8 0)], .agg [.lit (.int .u8 0), .lit (.int .u8 0)]]
def laid_porthole_portholehand_parts {H : Type} : DataW H := .agg [.lit (.string [97]), .lit (.string [66, 99]), .lit (.string [120, 121, 122]), .lit (.string [195, 169]), .lit (.string [226, 130, 172]), .lit (.string [13, 10]), .lit (.string [10]), .lit (.string [13]), .lit (.string [8]), .lit (.string [9]), .lit (.string [27, 91, 65]), .lit (.string [27, 91, 50, 66]), .lit (.string [27, 91, 51, 67]), .lit (.string [27, 91, 68]), .lit (.string [27, 91, 72]), .lit (.string [27, 91, 50, 59, 51, 72]), .lit (.string [27, 91, 74]), .lit (.string [27, 91, 49, 74]), .lit (.string [27, 91, 50, 74]), .lit (.string [27, 91, 75]), .lit (.string [27, 91, 49, 75]), .lit (.string [27, 91, 76]), .lit (.string [27, 91, 77]), .lit (.string [27, 91, 50, 64]), .lit (.string [27, 91, 80]), .lit (.string [27, 91, 88]), .lit (.string [27, 91, 83]), .lit (.string [27, 91, 84]), .lit (.string [27, 91, 49, 59, 51, 49, 109]), .lit (.string [27, 91, 48, 109]), .lit (.string [27, 77]), .lit (.string [27, 55]), .lit (.string [27, 56]), .lit (.string [27, 91, 63, 49, 48, 52, 57, 104])]
def laid_porthole_portholehand_more {H : Type} : DataW H := .agg [.lit (.string [27, 91, 63, 49, 48, 52, 57, 108]), .lit (.string [27, 91, 63, 55, 108]), .lit (.string [27, 91, 63, 55, 104]), .lit (.string [27, 91, 63, 50, 53, 108]), .lit (.string [27, 91, 63, 50, 53, 104]), .lit (.string [27, 91, 52, 104]), .lit (.string [27, 91, 52, 108]), .lit (.string [27, 72]), .lit (.string [27, 91, 103]), .lit (.string [27, 91, 51, 103]), .lit (.string [27, 99]), .lit (.string [27, 68]), .lit (.string [27, 69]), .lit (.string [27, 93, 48, 59, 116, 7]), .lit (.string [27, 40, 66]), .lit (.string [27, 91, 57, 57, 59, 57, 57, 72]), .lit (.string [27, 91, 51, 74]), .lit (.string [27, 91, 55, 59, 52, 50, 109]), .lit (.string [27, 91, 51, 57, 59, 52, 57, 109]), .lit (.string [255]), .lit (.string [226, 130]), .lit (.string [27, 91, 53, 71])]
/-- One of Go's own tables, pinned by name: the form's constant. -/
def laid_unicode_utf8_first : DataW Unit := Go.Pinned.utf8First

/-- 'portholelaw23.MuxViews': WHATEVER THE INPUT: true; the input reads as it did. -/
def muxViewsSpec : ChangeSpec := { name := "muxViews", fn := fun _ => fun
  | [d1, d2, d3, d4] => { results := [.lit (.bool true)], args := [d1, d2, d3, d4] }
  | _ => none }
def muxViewsRow : OpenClaim := { program := "ytjjchnjcmnkpdaadoor", sum := "698e0b81aaabf24b13252ac00c1c73c22faac28b8d969db48b4d7672a164ee0b", func := "porthole/portholelaw23.MuxViews", spec := "muxViews", unfollowed := true, recurses := true, named := ["porthole/portholehand.parts", "porthole/portholehand.more", "unicode/utf8.first", "unicode/utf8.acceptRanges"], apart := false, laid := [("unicode/utf8.acceptRanges", laid_unicode_utf8_acceptRanges), ("porthole/portholehand.parts", laid_porthole_portholehand_parts), ("porthole/portholehand.more", laid_porthole_portholehand_more), ("unicode/utf8.first", laid_unicode_utf8_first)] }
def MuxViewsSaid : Prop := muxViewsRow.holds Tryd.pinned (OpenSpec.ofChange muxViewsSpec)

/-- ITS FALSE NEIGHBOUR: 'it returns false'. Refute it at one input. -/
def muxViewsWrong : ChangeSpec := { name := "muxViews", fn := fun _ => fun
  | [d1, d2, d3, d4] => { results := [.lit (.bool false)], args := [d1, d2, d3, d4] }
  | _ => none }
def MuxViewsWrongFalsely : Prop := muxViewsRow.holds Tryd.pinned (OpenSpec.ofChange muxViewsWrong)

/- THE SECOND FORM. 'bulk': how many values and letters a reading holds, each counted each time it is reached (what is shared counts as often as it is met; a slice's spare places count too). A statement '..UptoSaid' is the law's where the arguments, and the package variables that the reading takes, are together of bulk at most 1048576: NARROWER than '..Said'. Prove '..Said' where nothing that the law and all that it calls make is longer than what came in: it says more and counts as full. Else prove '..UptoSaid'. A law counts once. -/
mutual
def uptoBulk {H : Type} : DataW H → Nat
  | .lit (.string bytes) => bytes.length + 1
  | .lit _ => 1
  | .nil => 1
  | .ptr d => uptoBulk d + 1
  | .slice elems spare => uptoBulkAll elems + uptoBulkAll spare + 1
  | .agg parts => uptoBulkAll parts + 1
  | .iface _ d => uptoBulk d + 1
  | .map entries => uptoBulkEntries entries + 1
  | .held _ => 1
def uptoBulkAll {H : Type} : List (DataW H) → Nat
  | [] => 0
  | d :: r => uptoBulk d + uptoBulkAll r
def uptoBulkEntries {H : Type} : List (Lit × DataW H) → Nat
  | [] => 0
  | x :: r => uptoBulkEntry x + uptoBulkEntries r
def uptoBulkEntry {H : Type} : Lit × DataW H → Nat
  | (.string bytes, d) => bytes.length + uptoBulk d + 1
  | (_, d) => uptoBulk d + 1
 end
def uptoSmall : (H : Type) → List (DataW H) → Bool := fun _ ds => decide (uptoBulkAll ds ≤ 1048576)
def OpenSpec.upto (s : _root_.Go.ChangeSpec) : _root_.Go.OpenSpec := { _root_.Go.OpenSpec.ofChange s with cond := some uptoSmall }

/-- 'portholelaw23.MuxViews', WHERE WHAT IT READS IS OF BULK AT MOST 1048576: true; the input reads as it did. -/
def muxViewsUptoRow : OpenClaim := { program := "ytjjchnjcmnkpdaadoor", sum := "698e0b81aaabf24b13252ac00c1c73c22faac28b8d969db48b4d7672a164ee0b", func := "porthole/portholelaw23.MuxViews", spec := "muxViews", unfollowed := true, recurses := true, named := ["porthole/portholehand.parts", "porthole/portholehand.more", "unicode/utf8.first", "unicode/utf8.acceptRanges"], apart := false, laid := [("unicode/utf8.acceptRanges", laid_unicode_utf8_acceptRanges), ("porthole/portholehand.parts", laid_porthole_portholehand_parts), ("porthole/portholehand.more", laid_porthole_portholehand_more), ("unicode/utf8.first", laid_unicode_utf8_first)], narrowed := true }
def MuxViewsUptoSaid : Prop := muxViewsUptoRow.holds Tryd.pinned (OpenSpec.upto muxViewsSpec)

end Rows
end Go.Proofs.YtjjchnjcmnkpdaaDoor
