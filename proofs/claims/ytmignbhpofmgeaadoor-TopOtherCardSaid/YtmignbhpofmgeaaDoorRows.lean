/-
  NARROWER THAN 'FOR EVERY INPUT', by the rows' own cells (each row's printed sentence says how): TopSticky: laid · TopChunks: laid · TopOther: laid.
  DERIVED. THE GIVEN ROWS OF THIS SEAT. 3 by the template 'for every input the law returns true; each argument reads behind the call as it read before'; 0 by the template 'total and deterministic' (their statements: YtmignbhpofmgeaaDoorTotals.lean).
  GIVEN WITH THE SEED: the statements are not yours to turn. If you find one false, say at which input.
  Laid BY PROGRAM, IN A SANDBOX (cutbox-rows.mjs): the forced cells as the released guide's own fill.sh prints them over the translation 3fb71f3db35f38ef… (all of the seat's roots in one cut). By AI agents, Wed Nov 11 2026. No macro, syntax, notation, axiom, sorry.
-/
import Derived.Test.YtmignbhpofmgeaaDoorChecked
import GoSem.Claim
import GoSem.ClaimJoined
import GoSem.ClaimMapViews
import Derived.JoinedTies
import Derived.KernelRfl
namespace Go.Proofs.YtmignbhpofmgeaaDoor
/- THE CELL 'sum', in the pinned program and in every row, IS THE sha256 OF THE DUMP (.gsa) THAT YtmignbhpofmgeaaDoorProg.lean LOADS. Nothing in Lean hashes anything: it is a label: what it is worth is what the hold of that sum in a sandbox is worth. -/
noncomputable def Tryd.pinned : Pinned := { name := "ytmignbhpofmgeaadoor", sum := "3fb71f3db35f38ef69da51d11c9b5549e7791ed6f37bc990fafed55dacb0db93", checked := Tryd.checked }
namespace Rows
def none {H : Type} : Left H := { results := [], args := [] }

/- WHAT THE LISTED PACKAGE-LEVEL VARIABLES READ AS WHEN THE CALL BEGINS. Each datum BY PROGRAM (the guide's laid-datum.mjs) off the statement by which the dump's own 'gosem.cut.vars' lays the variable. In a bare row this is a premise. The card (YtmignbhpofmgeaaDoorCards.lean) ties it to the program's text. -/
def laid_quillpen_utf_table {H : Type} : DataW H := .agg [.slice [.agg [.lit (.int .u8 0), .lit (.int .u8 127), .lit (.int .i64 0)], .agg [.lit (.int .u8 194), .lit (.int .u8 223), .lit (.int .i64 1)], .agg [.lit (.int .u8 224), .lit (.int .u8 224), .lit (.int .i64 4)], .agg [.lit (.int .u8 225), .lit (.int .u8 236), .lit (.int .i64 2)], .agg [.lit (.int .u8 237), .lit (.int .u8 237), .lit (.int .i64 5)], .agg [.lit (.int .u8 238), .lit (.int .u8 239), .lit (.int .i64 2)], .agg [.lit (.int .u8 240), .lit (.int .u8 240), .lit (.int .i64 6)], .agg [.lit (.int .u8 241), .lit (.int .u8 243), .lit (.int .i64 3)], .agg [.lit (.int .u8 244), .lit (.int .u8 244), .lit (.int .i64 7)]] [], .slice [.agg [.lit (.int .u8 128), .lit (.int .u8 191), .lit (.int .i64 0)]] [], .slice [.agg [.lit (.int .u8 128), .lit (.int .u8 191), .lit (.int .i64 1)]] [], .slice [.agg [.lit (.int .u8 128), .lit (.int .u8 191), .lit (.int .i64 2)]] [], .slice [.agg [.lit (.int .u8 160), .lit (.int .u8 191), .lit (.int .i64 1)]] [], .slice [.agg [.lit (.int .u8 128), .lit (.int .u8 159), .lit (.int .i64 1)]] [], .slice [.agg [.lit (.int .u8 144), .lit (.int .u8 191), .lit (.int .i64 2)]] [], .slice [.agg [.lit (.int .u8 128), .lit (.int .u8 143), .lit (.int .i64 2)]] []]

/-- 'quillpentop.TopSticky': WHATEVER THE INPUT: true; the input reads as it did. -/
def topStickySpec : ChangeSpec := { name := "topSticky", fn := fun _ => fun
  | [d1, d2, d3] => { results := [.lit (.bool true)], args := [d1, d2, d3] }
  | _ => none }
def topStickyRow : OpenClaim := { program := "ytmignbhpofmgeaadoor", sum := "3fb71f3db35f38ef69da51d11c9b5549e7791ed6f37bc990fafed55dacb0db93", func := "quillpen/quillpentop.TopSticky", spec := "topSticky", unfollowed := true, recurses := true, named := ["quillpen/utf.table"], apart := false, laid := [("quillpen/utf.table", laid_quillpen_utf_table)] }
def TopStickySaid : Prop := topStickyRow.holds Tryd.pinned (OpenSpec.ofChange topStickySpec)

/-- ITS FALSE NEIGHBOUR: 'it returns false'. Refute it at one input. -/
def topStickyWrong : ChangeSpec := { name := "topSticky", fn := fun _ => fun
  | [d1, d2, d3] => { results := [.lit (.bool false)], args := [d1, d2, d3] }
  | _ => none }
def TopStickyWrongFalsely : Prop := topStickyRow.holds Tryd.pinned (OpenSpec.ofChange topStickyWrong)

/-- 'quillpentop.TopChunks': WHATEVER THE INPUT: true; the input reads as it did. -/
def topChunksSpec : ChangeSpec := { name := "topChunks", fn := fun _ => fun
  | [d1, d2, d3] => { results := [.lit (.bool true)], args := [d1, d2, d3] }
  | _ => none }
def topChunksRow : OpenClaim := { program := "ytmignbhpofmgeaadoor", sum := "3fb71f3db35f38ef69da51d11c9b5549e7791ed6f37bc990fafed55dacb0db93", func := "quillpen/quillpentop.TopChunks", spec := "topChunks", unfollowed := true, recurses := true, named := ["quillpen/utf.table"], apart := false, laid := [("quillpen/utf.table", laid_quillpen_utf_table)] }
def TopChunksSaid : Prop := topChunksRow.holds Tryd.pinned (OpenSpec.ofChange topChunksSpec)

/-- ITS FALSE NEIGHBOUR: 'it returns false'. Refute it at one input. -/
def topChunksWrong : ChangeSpec := { name := "topChunks", fn := fun _ => fun
  | [d1, d2, d3] => { results := [.lit (.bool false)], args := [d1, d2, d3] }
  | _ => none }
def TopChunksWrongFalsely : Prop := topChunksRow.holds Tryd.pinned (OpenSpec.ofChange topChunksWrong)

/-- 'quillpentop.TopOther': WHATEVER THE INPUT: true; the input reads as it did. -/
def topOtherSpec : ChangeSpec := { name := "topOther", fn := fun _ => fun
  | [d1, d2, d3] => { results := [.lit (.bool true)], args := [d1, d2, d3] }
  | _ => none }
def topOtherRow : OpenClaim := { program := "ytmignbhpofmgeaadoor", sum := "3fb71f3db35f38ef69da51d11c9b5549e7791ed6f37bc990fafed55dacb0db93", func := "quillpen/quillpentop.TopOther", spec := "topOther", unfollowed := true, recurses := true, named := ["quillpen/utf.table"], apart := false, laid := [("quillpen/utf.table", laid_quillpen_utf_table)] }
def TopOtherSaid : Prop := topOtherRow.holds Tryd.pinned (OpenSpec.ofChange topOtherSpec)

/-- ITS FALSE NEIGHBOUR: 'it returns false'. Refute it at one input. -/
def topOtherWrong : ChangeSpec := { name := "topOther", fn := fun _ => fun
  | [d1, d2, d3] => { results := [.lit (.bool false)], args := [d1, d2, d3] }
  | _ => none }
def TopOtherWrongFalsely : Prop := topOtherRow.holds Tryd.pinned (OpenSpec.ofChange topOtherWrong)

/- THE SECOND FORM. 'bulk': how many values and letters a reading holds, each counted each time it is reached (what is shared counts as often as it is met; a slice's spare places count too). A statement '..UptoSaid' is the law's where the arguments, and the package variables that the reading takes, are together of bulk at most 1048576: NARROWER than '..Said'. Prove '..Said' where nothing that the law and all that it calls make is longer than what came in: it says more and counts as full. Else prove '..UptoSaid'. A law counts once. -/
mutual
def uptoBulk {H : Type} : DataW H → Nat
  | .lit (.string bytes) => bytes.length + 1
  | .lit _ => 1
  | .nil => 1
  | .ptr d => uptoBulk d + 1
  | .slice elems spare => uptoBulkAll elems + uptoBulkAll spare + 1
  | .agg parts => uptoBulkAll parts + 1
  | .iface _ d => uptoBulk d + 1
  | .map entries => uptoBulkEntries entries + 1
  | .held _ => 1
def uptoBulkAll {H : Type} : List (DataW H) → Nat
  | [] => 0
  | d :: r => uptoBulk d + uptoBulkAll r
def uptoBulkEntries {H : Type} : List (Lit × DataW H) → Nat
  | [] => 0
  | x :: r => uptoBulkEntry x + uptoBulkEntries r
def uptoBulkEntry {H : Type} : Lit × DataW H → Nat
  | (.string bytes, d) => bytes.length + uptoBulk d + 1
  | (_, d) => uptoBulk d + 1
 end
def uptoSmall : (H : Type) → List (DataW H) → Bool := fun _ ds => decide (uptoBulkAll ds ≤ 1048576)
def OpenSpec.upto (s : _root_.Go.ChangeSpec) : _root_.Go.OpenSpec := { _root_.Go.OpenSpec.ofChange s with cond := some uptoSmall }

/-- 'quillpentop.TopSticky', WHERE WHAT IT READS IS OF BULK AT MOST 1048576: true; the input reads as it did. -/
def topStickyUptoRow : OpenClaim := { program := "ytmignbhpofmgeaadoor", sum := "3fb71f3db35f38ef69da51d11c9b5549e7791ed6f37bc990fafed55dacb0db93", func := "quillpen/quillpentop.TopSticky", spec := "topSticky", unfollowed := true, recurses := true, named := ["quillpen/utf.table"], apart := false, laid := [("quillpen/utf.table", laid_quillpen_utf_table)], narrowed := true }
def TopStickyUptoSaid : Prop := topStickyUptoRow.holds Tryd.pinned (OpenSpec.upto topStickySpec)

/-- 'quillpentop.TopChunks', WHERE WHAT IT READS IS OF BULK AT MOST 1048576: true; the input reads as it did. -/
def topChunksUptoRow : OpenClaim := { program := "ytmignbhpofmgeaadoor", sum := "3fb71f3db35f38ef69da51d11c9b5549e7791ed6f37bc990fafed55dacb0db93", func := "quillpen/quillpentop.TopChunks", spec := "topChunks", unfollowed := true, recurses := true, named := ["quillpen/utf.table"], apart := false, laid := [("quillpen/utf.table", laid_quillpen_utf_table)], narrowed := true }
def TopChunksUptoSaid : Prop := topChunksUptoRow.holds Tryd.pinned (OpenSpec.upto topChunksSpec)

/-- 'quillpentop.TopOther', WHERE WHAT IT READS IS OF BULK AT MOST 1048576: true; the input reads as it did. -/
def topOtherUptoRow : OpenClaim := { program := "ytmignbhpofmgeaadoor", sum := "3fb71f3db35f38ef69da51d11c9b5549e7791ed6f37bc990fafed55dacb0db93", func := "quillpen/quillpentop.TopOther", spec := "topOther", unfollowed := true, recurses := true, named := ["quillpen/utf.table"], apart := false, laid := [("quillpen/utf.table", laid_quillpen_utf_table)], narrowed := true }
def TopOtherUptoSaid : Prop := topOtherUptoRow.holds Tryd.pinned (OpenSpec.upto topOtherSpec)

end Rows
end Go.Proofs.YtmignbhpofmgeaaDoor
