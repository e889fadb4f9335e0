/-
  DERIVED. GIVEN WITH THE SEED: THE CARDS: each row of YtflbmccjfnkflaaDoorRows.lean that lists a variable, with what it lists TIED to the program's text (the seventh form; the later family's looks); each row that meets fmt, with fmt's text TOLD by the authors' own Lean function (tested against real Go, not proved from fmt's source: count such statements apart). THE CARD IS WHAT COUNTS. Prove the row's statement (the work); the ties are given (YtflbmccjfnkflaaDoorTie.lean); close each card by the builder's one call (the guide's Derived/Test/ToyasCard.lean, 'card_holds'). Laid BY PROGRAM, IN A SANDBOX (cutbox-door.mjs). By AI agents, Wed Nov 11 2026. No macro, syntax, notation, axiom, sorry.
-/
import Derived.Test.YtflbmccjfnkflaaDoorRows
import GoSem.ClaimSeven
namespace Go.Proofs.YtflbmccjfnkflaaDoor
namespace Rows

/-- THE TIED CARD OF 'lockfastlaw11.TileReads'. -/
def tileReadsCard : Claim7 := { stood := { row := tileReadsRow, standIns := [], harness := (true, "6904b64a6878051cd764f350970974158eb0a6ce384e912b475017be150805aa"), looks := false }, kinds := [], alts := [], laidByText := true, laidKinds := [.data], laidTests := true, laidLooks := .later }
def TileReadsCardSaid : Prop := Claim7.holds Tryd.pinned (.plain (OpenSpec.ofChange tileReadsSpec)) tileReadsCard

/-- THE TIED CARD OF 'lockfastlaw11.TileRows'. -/
def tileRowsCard : Claim7 := { stood := { row := tileRowsRow, standIns := [], harness := (true, "6904b64a6878051cd764f350970974158eb0a6ce384e912b475017be150805aa"), looks := false }, kinds := [], alts := [], laidByText := true, laidKinds := [.data], laidTests := true, laidLooks := .later }
def TileRowsCardSaid : Prop := Claim7.holds Tryd.pinned (.plain (OpenSpec.ofChange tileRowsSpec)) tileRowsCard

/-- THE TIED CARD OF 'lockfastlaw11.TileParts'. -/
def tilePartsCard : Claim7 := { stood := { row := tilePartsRow, standIns := [], harness := (true, "6904b64a6878051cd764f350970974158eb0a6ce384e912b475017be150805aa"), looks := false }, kinds := [], alts := [], laidByText := true, laidKinds := [.data], laidTests := true, laidLooks := .later }
def TilePartsCardSaid : Prop := Claim7.holds Tryd.pinned (.plain (OpenSpec.ofChange tilePartsSpec)) tilePartsCard

/-- THE TIED CARD OF 'lockfastlaw11.TileOne'. -/
def tileOneCard : Claim7 := { stood := { row := tileOneRow, standIns := [], harness := (true, "6904b64a6878051cd764f350970974158eb0a6ce384e912b475017be150805aa"), looks := false }, kinds := [], alts := [], laidByText := true, laidKinds := [.data], laidTests := true, laidLooks := .later }
def TileOneCardSaid : Prop := Claim7.holds Tryd.pinned (.plain (OpenSpec.ofChange tileOneSpec)) tileOneCard

/-- THE TIED CARD OF 'lockfastlaw17.IndexFrees'. -/
def indexFreesCard : Claim7 := { stood := { row := indexFreesRow, standIns := [], harness := (true, "6904b64a6878051cd764f350970974158eb0a6ce384e912b475017be150805aa"), looks := false }, kinds := [], alts := [], laidByText := true, laidKinds := [.data], laidTests := true, laidLooks := .later }
def IndexFreesCardSaid : Prop := Claim7.holds Tryd.pinned (.plain (OpenSpec.ofChange indexFreesSpec)) indexFreesCard

/-- THE TIED CARD OF 'lockfastlaw17.IndexNoSpace'. -/
def indexNoSpaceCard : Claim7 := { stood := { row := indexNoSpaceRow, standIns := [], harness := (true, "6904b64a6878051cd764f350970974158eb0a6ce384e912b475017be150805aa"), looks := false }, kinds := [], alts := [], laidByText := true, laidKinds := [.data], laidTests := true, laidLooks := .later }
def IndexNoSpaceCardSaid : Prop := Claim7.holds Tryd.pinned (.plain (OpenSpec.ofChange indexNoSpaceSpec)) indexNoSpaceCard

/-- THE TIED CARD OF 'lockfastlaw17.IndexPlays'. -/
def indexPlaysCard : Claim7 := { stood := { row := indexPlaysRow, standIns := [], harness := (true, "6904b64a6878051cd764f350970974158eb0a6ce384e912b475017be150805aa"), looks := false }, kinds := [], alts := [], laidByText := true, laidKinds := [.data], laidTests := true, laidLooks := .later }
def IndexPlaysCardSaid : Prop := Claim7.holds Tryd.pinned (.plain (OpenSpec.ofChange indexPlaysSpec)) indexPlaysCard

/-- THE TIED CARD OF 'lockfastlaw17.IndexDrops'. -/
def indexDropsCard : Claim7 := { stood := { row := indexDropsRow, standIns := [], harness := (true, "6904b64a6878051cd764f350970974158eb0a6ce384e912b475017be150805aa"), looks := false }, kinds := [], alts := [], laidByText := true, laidKinds := [.data], laidTests := true, laidLooks := .later }
def IndexDropsCardSaid : Prop := Claim7.holds Tryd.pinned (.plain (OpenSpec.ofChange indexDropsSpec)) indexDropsCard

/-- THE TIED CARD OF 'lockfastlaw17.IndexApart'. -/
def indexApartCard : Claim7 := { stood := { row := indexApartRow, standIns := [], harness := (true, "6904b64a6878051cd764f350970974158eb0a6ce384e912b475017be150805aa"), looks := false }, kinds := [], alts := [], laidByText := true, laidKinds := [.data], laidTests := true, laidLooks := .later }
def IndexApartCardSaid : Prop := Claim7.holds Tryd.pinned (.plain (OpenSpec.ofChange indexApartSpec)) indexApartCard

/-- THE TIED CARD OF 'lockfastlaw11.TileTells'. -/
def tileTellsCard : Claim7 := { stood := { row := tileTellsRow, standIns := [], harness := (true, "6904b64a6878051cd764f350970974158eb0a6ce384e912b475017be150805aa"), looks := false }, kinds := [], alts := [], laidByText := true, laidKinds := [.data], laidTests := true, laidLooks := .later }
def TileTellsCardSaid : Prop := Claim7.holds Tryd.pinned (.plain (OpenSpec.ofChange tileTellsSpec)) tileTellsCard

/-- THE TIED CARD OF 'lockfastlaw11.TileWhole'. -/
def tileWholeCard : Claim7 := { stood := { row := tileWholeRow, standIns := [], harness := (true, "6904b64a6878051cd764f350970974158eb0a6ce384e912b475017be150805aa"), looks := false }, kinds := [], alts := [], laidByText := true, laidKinds := [.data], laidTests := true, laidLooks := .later }
def TileWholeCardSaid : Prop := Claim7.holds Tryd.pinned (.plain (OpenSpec.ofChange tileWholeSpec)) tileWholeCard

/-- THE TIED CARD OF 'lockfastlaw17.IndexTable'. -/
def indexTableCard : Claim7 := { stood := { row := indexTableRow, standIns := [], harness := (true, "6904b64a6878051cd764f350970974158eb0a6ce384e912b475017be150805aa"), looks := false }, kinds := [], alts := [], laidByText := true, laidKinds := [.data], laidTests := true, laidLooks := .later }
def IndexTableCardSaid : Prop := Claim7.holds Tryd.pinned (.plain (OpenSpec.ofChange indexTableSpec)) indexTableCard

/-- THE SECOND FORM's CARD OF 'lockfastlaw11.TileReads'. -/
def tileReadsUptoCard : Claim7 := { stood := { row := tileReadsUptoRow, standIns := [], harness := (true, "6904b64a6878051cd764f350970974158eb0a6ce384e912b475017be150805aa"), looks := false }, kinds := [], alts := [], laidByText := true, laidKinds := [.data], laidTests := true, laidLooks := .later }
def TileReadsUptoCardSaid : Prop := Claim7.holds Tryd.pinned (.plain (OpenSpec.upto tileReadsSpec)) tileReadsUptoCard

/-- THE SECOND FORM's CARD OF 'lockfastlaw11.TileRows'. -/
def tileRowsUptoCard : Claim7 := { stood := { row := tileRowsUptoRow, standIns := [], harness := (true, "6904b64a6878051cd764f350970974158eb0a6ce384e912b475017be150805aa"), looks := false }, kinds := [], alts := [], laidByText := true, laidKinds := [.data], laidTests := true, laidLooks := .later }
def TileRowsUptoCardSaid : Prop := Claim7.holds Tryd.pinned (.plain (OpenSpec.upto tileRowsSpec)) tileRowsUptoCard

/-- THE SECOND FORM's CARD OF 'lockfastlaw11.TileParts'. -/
def tilePartsUptoCard : Claim7 := { stood := { row := tilePartsUptoRow, standIns := [], harness := (true, "6904b64a6878051cd764f350970974158eb0a6ce384e912b475017be150805aa"), looks := false }, kinds := [], alts := [], laidByText := true, laidKinds := [.data], laidTests := true, laidLooks := .later }
def TilePartsUptoCardSaid : Prop := Claim7.holds Tryd.pinned (.plain (OpenSpec.upto tilePartsSpec)) tilePartsUptoCard

/-- THE SECOND FORM's CARD OF 'lockfastlaw11.TileOne'. -/
def tileOneUptoCard : Claim7 := { stood := { row := tileOneUptoRow, standIns := [], harness := (true, "6904b64a6878051cd764f350970974158eb0a6ce384e912b475017be150805aa"), looks := false }, kinds := [], alts := [], laidByText := true, laidKinds := [.data], laidTests := true, laidLooks := .later }
def TileOneUptoCardSaid : Prop := Claim7.holds Tryd.pinned (.plain (OpenSpec.upto tileOneSpec)) tileOneUptoCard

/-- THE SECOND FORM's CARD OF 'lockfastlaw17.IndexFrees'. -/
def indexFreesUptoCard : Claim7 := { stood := { row := indexFreesUptoRow, standIns := [], harness := (true, "6904b64a6878051cd764f350970974158eb0a6ce384e912b475017be150805aa"), looks := false }, kinds := [], alts := [], laidByText := true, laidKinds := [.data], laidTests := true, laidLooks := .later }
def IndexFreesUptoCardSaid : Prop := Claim7.holds Tryd.pinned (.plain (OpenSpec.upto indexFreesSpec)) indexFreesUptoCard

/-- THE SECOND FORM's CARD OF 'lockfastlaw17.IndexNoSpace'. -/
def indexNoSpaceUptoCard : Claim7 := { stood := { row := indexNoSpaceUptoRow, standIns := [], harness := (true, "6904b64a6878051cd764f350970974158eb0a6ce384e912b475017be150805aa"), looks := false }, kinds := [], alts := [], laidByText := true, laidKinds := [.data], laidTests := true, laidLooks := .later }
def IndexNoSpaceUptoCardSaid : Prop := Claim7.holds Tryd.pinned (.plain (OpenSpec.upto indexNoSpaceSpec)) indexNoSpaceUptoCard

/-- THE SECOND FORM's CARD OF 'lockfastlaw17.IndexPlays'. -/
def indexPlaysUptoCard : Claim7 := { stood := { row := indexPlaysUptoRow, standIns := [], harness := (true, "6904b64a6878051cd764f350970974158eb0a6ce384e912b475017be150805aa"), looks := false }, kinds := [], alts := [], laidByText := true, laidKinds := [.data], laidTests := true, laidLooks := .later }
def IndexPlaysUptoCardSaid : Prop := Claim7.holds Tryd.pinned (.plain (OpenSpec.upto indexPlaysSpec)) indexPlaysUptoCard

/-- THE SECOND FORM's CARD OF 'lockfastlaw17.IndexDrops'. -/
def indexDropsUptoCard : Claim7 := { stood := { row := indexDropsUptoRow, standIns := [], harness := (true, "6904b64a6878051cd764f350970974158eb0a6ce384e912b475017be150805aa"), looks := false }, kinds := [], alts := [], laidByText := true, laidKinds := [.data], laidTests := true, laidLooks := .later }
def IndexDropsUptoCardSaid : Prop := Claim7.holds Tryd.pinned (.plain (OpenSpec.upto indexDropsSpec)) indexDropsUptoCard

/-- THE SECOND FORM's CARD OF 'lockfastlaw17.IndexApart'. -/
def indexApartUptoCard : Claim7 := { stood := { row := indexApartUptoRow, standIns := [], harness := (true, "6904b64a6878051cd764f350970974158eb0a6ce384e912b475017be150805aa"), looks := false }, kinds := [], alts := [], laidByText := true, laidKinds := [.data], laidTests := true, laidLooks := .later }
def IndexApartUptoCardSaid : Prop := Claim7.holds Tryd.pinned (.plain (OpenSpec.upto indexApartSpec)) indexApartUptoCard

/-- THE SECOND FORM's CARD OF 'lockfastlaw11.TileTells'. -/
def tileTellsUptoCard : Claim7 := { stood := { row := tileTellsUptoRow, standIns := [], harness := (true, "6904b64a6878051cd764f350970974158eb0a6ce384e912b475017be150805aa"), looks := false }, kinds := [], alts := [], laidByText := true, laidKinds := [.data], laidTests := true, laidLooks := .later }
def TileTellsUptoCardSaid : Prop := Claim7.holds Tryd.pinned (.plain (OpenSpec.upto tileTellsSpec)) tileTellsUptoCard

/-- THE SECOND FORM's CARD OF 'lockfastlaw11.TileWhole'. -/
def tileWholeUptoCard : Claim7 := { stood := { row := tileWholeUptoRow, standIns := [], harness := (true, "6904b64a6878051cd764f350970974158eb0a6ce384e912b475017be150805aa"), looks := false }, kinds := [], alts := [], laidByText := true, laidKinds := [.data], laidTests := true, laidLooks := .later }
def TileWholeUptoCardSaid : Prop := Claim7.holds Tryd.pinned (.plain (OpenSpec.upto tileWholeSpec)) tileWholeUptoCard

/-- THE SECOND FORM's CARD OF 'lockfastlaw17.IndexTable'. -/
def indexTableUptoCard : Claim7 := { stood := { row := indexTableUptoRow, standIns := [], harness := (true, "6904b64a6878051cd764f350970974158eb0a6ce384e912b475017be150805aa"), looks := false }, kinds := [], alts := [], laidByText := true, laidKinds := [.data], laidTests := true, laidLooks := .later }
def IndexTableUptoCardSaid : Prop := Claim7.holds Tryd.pinned (.plain (OpenSpec.upto indexTableSpec)) indexTableUptoCard
end Rows
end Go.Proofs.YtflbmccjfnkflaaDoor
