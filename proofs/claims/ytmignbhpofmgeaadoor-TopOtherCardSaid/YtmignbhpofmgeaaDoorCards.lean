/-
  DERIVED. GIVEN WITH THE SEED: THE CARDS: each row of YtmignbhpofmgeaaDoorRows.lean that lists a variable, with what it lists TIED to the program's text (the seventh form; the later family's looks); each row that meets fmt, with fmt's text TOLD by the authors' own Lean function (tested against real Go, not proved from fmt's source: count such statements apart). THE CARD IS WHAT COUNTS. Prove the row's statement (the work); the ties are given (YtmignbhpofmgeaaDoorTie.lean); close each card by the builder's one call (the guide's Derived/Test/ToyasCard.lean, 'card_holds'). Laid BY PROGRAM, IN A SANDBOX (cutbox-door.mjs). By AI agents, Wed Nov 11 2026. No macro, syntax, notation, axiom, sorry.
-/
import Derived.Test.YtmignbhpofmgeaaDoorRows
import GoSem.ClaimSeven
namespace Go.Proofs.YtmignbhpofmgeaaDoor
namespace Rows

/-- THE TIED CARD OF 'quillpentop.TopSticky'. -/
def topStickyCard : Claim7 := { stood := { row := topStickyRow, standIns := [], harness := (true, "15b293ddf77bf444a821a62d558b7b0249d9209f8ed21d90a16b6e63f4e5c388"), looks := false }, kinds := [], alts := [], laidByText := true, laidKinds := [.data], laidTests := true, laidLooks := .later }
def TopStickyCardSaid : Prop := Claim7.holds Tryd.pinned (.plain (OpenSpec.ofChange topStickySpec)) topStickyCard

/-- THE TIED CARD OF 'quillpentop.TopChunks'. -/
def topChunksCard : Claim7 := { stood := { row := topChunksRow, standIns := [], harness := (true, "15b293ddf77bf444a821a62d558b7b0249d9209f8ed21d90a16b6e63f4e5c388"), looks := false }, kinds := [], alts := [], laidByText := true, laidKinds := [.data], laidTests := true, laidLooks := .later }
def TopChunksCardSaid : Prop := Claim7.holds Tryd.pinned (.plain (OpenSpec.ofChange topChunksSpec)) topChunksCard

/-- THE TIED CARD OF 'quillpentop.TopOther'. -/
def topOtherCard : Claim7 := { stood := { row := topOtherRow, standIns := [], harness := (true, "15b293ddf77bf444a821a62d558b7b0249d9209f8ed21d90a16b6e63f4e5c388"), looks := false }, kinds := [], alts := [], laidByText := true, laidKinds := [.data], laidTests := true, laidLooks := .later }
def TopOtherCardSaid : Prop := Claim7.holds Tryd.pinned (.plain (OpenSpec.ofChange topOtherSpec)) topOtherCard

/-- THE SECOND FORM's CARD OF 'quillpentop.TopSticky'. -/
def topStickyUptoCard : Claim7 := { stood := { row := topStickyUptoRow, standIns := [], harness := (true, "15b293ddf77bf444a821a62d558b7b0249d9209f8ed21d90a16b6e63f4e5c388"), looks := false }, kinds := [], alts := [], laidByText := true, laidKinds := [.data], laidTests := true, laidLooks := .later }
def TopStickyUptoCardSaid : Prop := Claim7.holds Tryd.pinned (.plain (OpenSpec.upto topStickySpec)) topStickyUptoCard

/-- THE SECOND FORM's CARD OF 'quillpentop.TopChunks'. -/
def topChunksUptoCard : Claim7 := { stood := { row := topChunksUptoRow, standIns := [], harness := (true, "15b293ddf77bf444a821a62d558b7b0249d9209f8ed21d90a16b6e63f4e5c388"), looks := false }, kinds := [], alts := [], laidByText := true, laidKinds := [.data], laidTests := true, laidLooks := .later }
def TopChunksUptoCardSaid : Prop := Claim7.holds Tryd.pinned (.plain (OpenSpec.upto topChunksSpec)) topChunksUptoCard

/-- THE SECOND FORM's CARD OF 'quillpentop.TopOther'. -/
def topOtherUptoCard : Claim7 := { stood := { row := topOtherUptoRow, standIns := [], harness := (true, "15b293ddf77bf444a821a62d558b7b0249d9209f8ed21d90a16b6e63f4e5c388"), looks := false }, kinds := [], alts := [], laidByText := true, laidKinds := [.data], laidTests := true, laidLooks := .later }
def TopOtherUptoCardSaid : Prop := Claim7.holds Tryd.pinned (.plain (OpenSpec.upto topOtherSpec)) topOtherUptoCard
end Rows
end Go.Proofs.YtmignbhpofmgeaaDoor
