/-
  NARROWER THAN 'FOR EVERY INPUT', by the rows' own cells (each row's printed sentence says how): TileReads: laid · TileRows: laid · TileParts: laid · TileOne: laid · IndexFrees: laid · IndexNoSpace: laid · IndexPlays: laid · IndexDrops: laid · IndexApart: laid · TileTells: laid · TileWhole: laid · IndexTable: laid.
  DERIVED. THE GIVEN ROWS OF THIS SEAT. 12 by the template 'for every input the law returns true; each argument reads behind the call as it read before'; 0 by the template 'total and deterministic' (their statements: YtflbmccjfnkflaaDoorTotals.lean).
  GIVEN WITH THE SEED: the statements are not yours to turn. If you find one false, say at which input.
  Laid BY PROGRAM, IN A SANDBOX (cutbox-rows.mjs): the forced cells as the released guide's own fill.sh prints them over the translation 3be858e4130b097c… (all of the seat's roots in one cut). By AI agents, Wed Nov 11 2026. No macro, syntax, notation, axiom, sorry.
-/
import Derived.Test.YtflbmccjfnkflaaDoorChecked
import GoSem.Claim
import GoSem.ClaimJoined
import GoSem.ClaimMapViews
import Derived.JoinedTies
import Derived.KernelRfl
namespace Go.Proofs.YtflbmccjfnkflaaDoor
/- THE CELL 'sum', in the pinned program and in every row, IS THE sha256 OF THE DUMP (.gsa) THAT YtflbmccjfnkflaaDoorProg.lean LOADS. Nothing in Lean hashes anything: it is a label: what it is worth is what the hold of that sum in a sandbox is worth. -/
noncomputable def Tryd.pinned : Pinned := { name := "ytflbmccjfnkflaadoor", sum := "3be858e4130b097c8dbbd42f27b5a433cd1e0734ae77d3714aaaf704d2ae9245", checked := Tryd.checked }
namespace Rows
def none {H : Type} : Left H := { results := [], args := [] }

/- WHAT THE LISTED PACKAGE-LEVEL VARIABLES READ AS WHEN THE CALL BEGINS. Each datum BY PROGRAM (the guide's laid-datum.mjs) off the statement by which the dump's own 'gosem.cut.vars' lays the variable. In a bare row this is a premise. The card (YtflbmccjfnkflaaDoorCards.lean) ties it to the program's text. -/
def laid_lockfast_class_blocks {H : Type} : DataW H := .agg [.lit (.int .i64 4), .lit (.int .i64 8), .lit (.int .i64 16)]

/-- 'lockfastlaw11.TileReads': WHATEVER THE INPUT: true; the input reads as it did. -/
def tileReadsSpec : ChangeSpec := { name := "tileReads", fn := fun _ => fun
  | [d] => { results := [.lit (.bool true)], args := [d] }
  | _ => none }
def tileReadsRow : OpenClaim := { program := "ytflbmccjfnkflaadoor", sum := "3be858e4130b097c8dbbd42f27b5a433cd1e0734ae77d3714aaaf704d2ae9245", func := "lockfast/lockfastlaw11.TileReads", spec := "tileReads", unfollowed := true, recurses := true, named := ["lockfast/class.blocks"], apart := false, laid := [("lockfast/class.blocks", laid_lockfast_class_blocks)] }
def TileReadsSaid : Prop := tileReadsRow.holds Tryd.pinned (OpenSpec.ofChange tileReadsSpec)

/-- ITS FALSE NEIGHBOUR: 'it returns false'. Refute it at one input. -/
def tileReadsWrong : ChangeSpec := { name := "tileReads", fn := fun _ => fun
  | [d] => { results := [.lit (.bool false)], args := [d] }
  | _ => none }
def TileReadsWrongFalsely : Prop := tileReadsRow.holds Tryd.pinned (OpenSpec.ofChange tileReadsWrong)

/-- 'lockfastlaw11.TileRows': WHATEVER THE INPUT: true; the input reads as it did. -/
def tileRowsSpec : ChangeSpec := { name := "tileRows", fn := fun _ => fun
  | [d] => { results := [.lit (.bool true)], args := [d] }
  | _ => none }
def tileRowsRow : OpenClaim := { program := "ytflbmccjfnkflaadoor", sum := "3be858e4130b097c8dbbd42f27b5a433cd1e0734ae77d3714aaaf704d2ae9245", func := "lockfast/lockfastlaw11.TileRows", spec := "tileRows", unfollowed := true, recurses := true, named := ["lockfast/class.blocks"], apart := false, laid := [("lockfast/class.blocks", laid_lockfast_class_blocks)] }
def TileRowsSaid : Prop := tileRowsRow.holds Tryd.pinned (OpenSpec.ofChange tileRowsSpec)

/-- ITS FALSE NEIGHBOUR: 'it returns false'. Refute it at one input. -/
def tileRowsWrong : ChangeSpec := { name := "tileRows", fn := fun _ => fun
  | [d] => { results := [.lit (.bool false)], args := [d] }
  | _ => none }
def TileRowsWrongFalsely : Prop := tileRowsRow.holds Tryd.pinned (OpenSpec.ofChange tileRowsWrong)

/-- 'lockfastlaw11.TileParts': WHATEVER THE INPUT: true; the input reads as it did. -/
def tilePartsSpec : ChangeSpec := { name := "tileParts", fn := fun _ => fun
  | [d1, d2] => { results := [.lit (.bool true)], args := [d1, d2] }
  | _ => none }
def tilePartsRow : OpenClaim := { program := "ytflbmccjfnkflaadoor", sum := "3be858e4130b097c8dbbd42f27b5a433cd1e0734ae77d3714aaaf704d2ae9245", func := "lockfast/lockfastlaw11.TileParts", spec := "tileParts", unfollowed := true, recurses := true, named := ["lockfast/class.blocks"], apart := false, laid := [("lockfast/class.blocks", laid_lockfast_class_blocks)] }
def TilePartsSaid : Prop := tilePartsRow.holds Tryd.pinned (OpenSpec.ofChange tilePartsSpec)

/-- ITS FALSE NEIGHBOUR: 'it returns false'. Refute it at one input. -/
def tilePartsWrong : ChangeSpec := { name := "tileParts", fn := fun _ => fun
  | [d1, d2] => { results := [.lit (.bool false)], args := [d1, d2] }
  | _ => none }
def TilePartsWrongFalsely : Prop := tilePartsRow.holds Tryd.pinned (OpenSpec.ofChange tilePartsWrong)

/-- 'lockfastlaw11.TileOne': WHATEVER THE INPUT: true; the input reads as it did. -/
def tileOneSpec : ChangeSpec := { name := "tileOne", fn := fun _ => fun
  | [d1, d2, d3] => { results := [.lit (.bool true)], args := [d1, d2, d3] }
  | _ => none }
def tileOneRow : OpenClaim := { program := "ytflbmccjfnkflaadoor", sum := "3be858e4130b097c8dbbd42f27b5a433cd1e0734ae77d3714aaaf704d2ae9245", func := "lockfast/lockfastlaw11.TileOne", spec := "tileOne", unfollowed := true, recurses := true, named := ["lockfast/class.blocks"], apart := false, laid := [("lockfast/class.blocks", laid_lockfast_class_blocks)] }
def TileOneSaid : Prop := tileOneRow.holds Tryd.pinned (OpenSpec.ofChange tileOneSpec)

/-- ITS FALSE NEIGHBOUR: 'it returns false'. Refute it at one input. -/
def tileOneWrong : ChangeSpec := { name := "tileOne", fn := fun _ => fun
  | [d1, d2, d3] => { results := [.lit (.bool false)], args := [d1, d2, d3] }
  | _ => none }
def TileOneWrongFalsely : Prop := tileOneRow.holds Tryd.pinned (OpenSpec.ofChange tileOneWrong)

/-- 'lockfastlaw17.IndexFrees': WHATEVER THE INPUT: true; the input reads as it did. -/
def indexFreesSpec : ChangeSpec := { name := "indexFrees", fn := fun _ => fun
  | [d1, d2] => { results := [.lit (.bool true)], args := [d1, d2] }
  | _ => none }
def indexFreesRow : OpenClaim := { program := "ytflbmccjfnkflaadoor", sum := "3be858e4130b097c8dbbd42f27b5a433cd1e0734ae77d3714aaaf704d2ae9245", func := "lockfast/lockfastlaw17.IndexFrees", spec := "indexFrees", unfollowed := true, recurses := true, named := ["lockfast/class.blocks"], apart := false, laid := [("lockfast/class.blocks", laid_lockfast_class_blocks)] }
def IndexFreesSaid : Prop := indexFreesRow.holds Tryd.pinned (OpenSpec.ofChange indexFreesSpec)

/-- ITS FALSE NEIGHBOUR: 'it returns false'. Refute it at one input. -/
def indexFreesWrong : ChangeSpec := { name := "indexFrees", fn := fun _ => fun
  | [d1, d2] => { results := [.lit (.bool false)], args := [d1, d2] }
  | _ => none }
def IndexFreesWrongFalsely : Prop := indexFreesRow.holds Tryd.pinned (OpenSpec.ofChange indexFreesWrong)

/-- 'lockfastlaw17.IndexNoSpace': WHATEVER THE INPUT: true; the input reads as it did. -/
def indexNoSpaceSpec : ChangeSpec := { name := "indexNoSpace", fn := fun _ => fun
  | [d1, d2] => { results := [.lit (.bool true)], args := [d1, d2] }
  | _ => none }
def indexNoSpaceRow : OpenClaim := { program := "ytflbmccjfnkflaadoor", sum := "3be858e4130b097c8dbbd42f27b5a433cd1e0734ae77d3714aaaf704d2ae9245", func := "lockfast/lockfastlaw17.IndexNoSpace", spec := "indexNoSpace", unfollowed := true, recurses := true, named := ["lockfast/class.blocks"], apart := false, laid := [("lockfast/class.blocks", laid_lockfast_class_blocks)] }
def IndexNoSpaceSaid : Prop := indexNoSpaceRow.holds Tryd.pinned (OpenSpec.ofChange indexNoSpaceSpec)

/-- ITS FALSE NEIGHBOUR: 'it returns false'. Refute it at one input. -/
def indexNoSpaceWrong : ChangeSpec := { name := "indexNoSpace", fn := fun _ => fun
  | [d1, d2] => { results := [.lit (.bool false)], args := [d1, d2] }
  | _ => none }
def IndexNoSpaceWrongFalsely : Prop := indexNoSpaceRow.holds Tryd.pinned (OpenSpec.ofChange indexNoSpaceWrong)

/-- 'lockfastlaw17.IndexPlays': WHATEVER THE INPUT: true; the input reads as it did. -/
def indexPlaysSpec : ChangeSpec := { name := "indexPlays", fn := fun _ => fun
  | [d1, d2] => { results := [.lit (.bool true)], args := [d1, d2] }
  | _ => none }
def indexPlaysRow : OpenClaim := { program := "ytflbmccjfnkflaadoor", sum := "3be858e4130b097c8dbbd42f27b5a433cd1e0734ae77d3714aaaf704d2ae9245", func := "lockfast/lockfastlaw17.IndexPlays", spec := "indexPlays", unfollowed := true, recurses := true, named := ["lockfast/class.blocks"], apart := false, laid := [("lockfast/class.blocks", laid_lockfast_class_blocks)] }
def IndexPlaysSaid : Prop := indexPlaysRow.holds Tryd.pinned (OpenSpec.ofChange indexPlaysSpec)

/-- ITS FALSE NEIGHBOUR: 'it returns false'. Refute it at one input. -/
def indexPlaysWrong : ChangeSpec := { name := "indexPlays", fn := fun _ => fun
  | [d1, d2] => { results := [.lit (.bool false)], args := [d1, d2] }
  | _ => none }
def IndexPlaysWrongFalsely : Prop := indexPlaysRow.holds Tryd.pinned (OpenSpec.ofChange indexPlaysWrong)

/-- 'lockfastlaw17.IndexDrops': WHATEVER THE INPUT: true; the input reads as it did. -/
def indexDropsSpec : ChangeSpec := { name := "indexDrops", fn := fun _ => fun
  | [d1, d2, d3] => { results := [.lit (.bool true)], args := [d1, d2, d3] }
  | _ => none }
def indexDropsRow : OpenClaim := { program := "ytflbmccjfnkflaadoor", sum := "3be858e4130b097c8dbbd42f27b5a433cd1e0734ae77d3714aaaf704d2ae9245", func := "lockfast/lockfastlaw17.IndexDrops", spec := "indexDrops", unfollowed := true, recurses := true, named := ["lockfast/class.blocks"], apart := false, laid := [("lockfast/class.blocks", laid_lockfast_class_blocks)] }
def IndexDropsSaid : Prop := indexDropsRow.holds Tryd.pinned (OpenSpec.ofChange indexDropsSpec)

/-- ITS FALSE NEIGHBOUR: 'it returns false'. Refute it at one input. -/
def indexDropsWrong : ChangeSpec := { name := "indexDrops", fn := fun _ => fun
  | [d1, d2, d3] => { results := [.lit (.bool false)], args := [d1, d2, d3] }
  | _ => none }
def IndexDropsWrongFalsely : Prop := indexDropsRow.holds Tryd.pinned (OpenSpec.ofChange indexDropsWrong)

/-- 'lockfastlaw17.IndexApart': WHATEVER THE INPUT: true; the input reads as it did. -/
def indexApartSpec : ChangeSpec := { name := "indexApart", fn := fun _ => fun
  | [d1, d2] => { results := [.lit (.bool true)], args := [d1, d2] }
  | _ => none }
def indexApartRow : OpenClaim := { program := "ytflbmccjfnkflaadoor", sum := "3be858e4130b097c8dbbd42f27b5a433cd1e0734ae77d3714aaaf704d2ae9245", func := "lockfast/lockfastlaw17.IndexApart", spec := "indexApart", unfollowed := true, recurses := true, named := ["lockfast/class.blocks"], apart := false, laid := [("lockfast/class.blocks", laid_lockfast_class_blocks)] }
def IndexApartSaid : Prop := indexApartRow.holds Tryd.pinned (OpenSpec.ofChange indexApartSpec)

/-- ITS FALSE NEIGHBOUR: 'it returns false'. Refute it at one input. -/
def indexApartWrong : ChangeSpec := { name := "indexApart", fn := fun _ => fun
  | [d1, d2] => { results := [.lit (.bool false)], args := [d1, d2] }
  | _ => none }
def IndexApartWrongFalsely : Prop := indexApartRow.holds Tryd.pinned (OpenSpec.ofChange indexApartWrong)

/-- 'lockfastlaw11.TileTells': WHATEVER THE INPUT: true; the input reads as it did. -/
def tileTellsSpec : ChangeSpec := { name := "tileTells", fn := fun _ => fun
  | [d1, d2] => { results := [.lit (.bool true)], args := [d1, d2] }
  | _ => none }
def tileTellsRow : OpenClaim := { program := "ytflbmccjfnkflaadoor", sum := "3be858e4130b097c8dbbd42f27b5a433cd1e0734ae77d3714aaaf704d2ae9245", func := "lockfast/lockfastlaw11.TileTells", spec := "tileTells", unfollowed := true, recurses := true, named := ["lockfast/class.blocks"], apart := false, laid := [("lockfast/class.blocks", laid_lockfast_class_blocks)] }
def TileTellsSaid : Prop := tileTellsRow.holds Tryd.pinned (OpenSpec.ofChange tileTellsSpec)

/-- ITS FALSE NEIGHBOUR: 'it returns false'. Refute it at one input. -/
def tileTellsWrong : ChangeSpec := { name := "tileTells", fn := fun _ => fun
  | [d1, d2] => { results := [.lit (.bool false)], args := [d1, d2] }
  | _ => none }
def TileTellsWrongFalsely : Prop := tileTellsRow.holds Tryd.pinned (OpenSpec.ofChange tileTellsWrong)

/-- 'lockfastlaw11.TileWhole': WHATEVER THE INPUT: true; the input reads as it did. -/
def tileWholeSpec : ChangeSpec := { name := "tileWhole", fn := fun _ => fun
  | [d] => { results := [.lit (.bool true)], args := [d] }
  | _ => none }
def tileWholeRow : OpenClaim := { program := "ytflbmccjfnkflaadoor", sum := "3be858e4130b097c8dbbd42f27b5a433cd1e0734ae77d3714aaaf704d2ae9245", func := "lockfast/lockfastlaw11.TileWhole", spec := "tileWhole", unfollowed := true, recurses := true, named := ["lockfast/class.blocks"], apart := false, laid := [("lockfast/class.blocks", laid_lockfast_class_blocks)] }
def TileWholeSaid : Prop := tileWholeRow.holds Tryd.pinned (OpenSpec.ofChange tileWholeSpec)

/-- ITS FALSE NEIGHBOUR: 'it returns false'. Refute it at one input. -/
def tileWholeWrong : ChangeSpec := { name := "tileWhole", fn := fun _ => fun
  | [d] => { results := [.lit (.bool false)], args := [d] }
  | _ => none }
def TileWholeWrongFalsely : Prop := tileWholeRow.holds Tryd.pinned (OpenSpec.ofChange tileWholeWrong)

/-- 'lockfastlaw17.IndexTable': WHATEVER THE INPUT: true; the input reads as it did. -/
def indexTableSpec : ChangeSpec := { name := "indexTable", fn := fun _ => fun
  | [d] => { results := [.lit (.bool true)], args := [d] }
  | _ => none }
def indexTableRow : OpenClaim := { program := "ytflbmccjfnkflaadoor", sum := "3be858e4130b097c8dbbd42f27b5a433cd1e0734ae77d3714aaaf704d2ae9245", func := "lockfast/lockfastlaw17.IndexTable", spec := "indexTable", unfollowed := true, recurses := true, named := ["lockfast/class.blocks"], apart := false, laid := [("lockfast/class.blocks", laid_lockfast_class_blocks)] }
def IndexTableSaid : Prop := indexTableRow.holds Tryd.pinned (OpenSpec.ofChange indexTableSpec)

/-- ITS FALSE NEIGHBOUR: 'it returns false'. Refute it at one input. -/
def indexTableWrong : ChangeSpec := { name := "indexTable", fn := fun _ => fun
  | [d] => { results := [.lit (.bool false)], args := [d] }
  | _ => none }
def IndexTableWrongFalsely : Prop := indexTableRow.holds Tryd.pinned (OpenSpec.ofChange indexTableWrong)

/- THE SECOND FORM. 'bulk': how many values and letters a reading holds, each counted each time it is reached (what is shared counts as often as it is met; a slice's spare places count too). A statement '..UptoSaid' is the law's where the arguments, and the package variables that the reading takes, are together of bulk at most 1048576: NARROWER than '..Said'. Prove '..Said' where nothing that the law and all that it calls make is longer than what came in: it says more and counts as full. Else prove '..UptoSaid'. A law counts once. -/
mutual
def uptoBulk {H : Type} : DataW H → Nat
  | .lit (.string bytes) => bytes.length + 1
  | .lit _ => 1
  | .nil => 1
  | .ptr d => uptoBulk d + 1
  | .slice elems spare => uptoBulkAll elems + uptoBulkAll spare + 1
  | .agg parts => uptoBulkAll parts + 1
  | .iface _ d => uptoBulk d + 1
  | .map entries => uptoBulkEntries entries + 1
  | .held _ => 1
def uptoBulkAll {H : Type} : List (DataW H) → Nat
  | [] => 0
  | d :: r => uptoBulk d + uptoBulkAll r
def uptoBulkEntries {H : Type} : List (Lit × DataW H) → Nat
  | [] => 0
  | x :: r => uptoBulkEntry x + uptoBulkEntries r
def uptoBulkEntry {H : Type} : Lit × DataW H → Nat
  | (.string bytes, d) => bytes.length + uptoBulk d + 1
  | (_, d) => uptoBulk d + 1
 end
def uptoSmall : (H : Type) → List (DataW H) → Bool := fun _ ds => decide (uptoBulkAll ds ≤ 1048576)
def OpenSpec.upto (s : _root_.Go.ChangeSpec) : _root_.Go.OpenSpec := { _root_.Go.OpenSpec.ofChange s with cond := some uptoSmall }

/-- 'lockfastlaw11.TileReads', WHERE WHAT IT READS IS OF BULK AT MOST 1048576: true; the input reads as it did. -/
def tileReadsUptoRow : OpenClaim := { program := "ytflbmccjfnkflaadoor", sum := "3be858e4130b097c8dbbd42f27b5a433cd1e0734ae77d3714aaaf704d2ae9245", func := "lockfast/lockfastlaw11.TileReads", spec := "tileReads", unfollowed := true, recurses := true, named := ["lockfast/class.blocks"], apart := false, laid := [("lockfast/class.blocks", laid_lockfast_class_blocks)], narrowed := true }
def TileReadsUptoSaid : Prop := tileReadsUptoRow.holds Tryd.pinned (OpenSpec.upto tileReadsSpec)

/-- 'lockfastlaw11.TileRows', WHERE WHAT IT READS IS OF BULK AT MOST 1048576: true; the input reads as it did. -/
def tileRowsUptoRow : OpenClaim := { program := "ytflbmccjfnkflaadoor", sum := "3be858e4130b097c8dbbd42f27b5a433cd1e0734ae77d3714aaaf704d2ae9245", func := "lockfast/lockfastlaw11.TileRows", spec := "tileRows", unfollowed := true, recurses := true, named := ["lockfast/class.blocks"], apart := false, laid := [("lockfast/class.blocks", laid_lockfast_class_blocks)], narrowed := true }
def TileRowsUptoSaid : Prop := tileRowsUptoRow.holds Tryd.pinned (OpenSpec.upto tileRowsSpec)

/-- 'lockfastlaw11.TileParts', WHERE WHAT IT READS IS OF BULK AT MOST 1048576: true; the input reads as it did. -/
def tilePartsUptoRow : OpenClaim := { program := "ytflbmccjfnkflaadoor", sum := "3be858e4130b097c8dbbd42f27b5a433cd1e0734ae77d3714aaaf704d2ae9245", func := "lockfast/lockfastlaw11.TileParts", spec := "tileParts", unfollowed := true, recurses := true, named := ["lockfast/class.blocks"], apart := false, laid := [("lockfast/class.blocks", laid_lockfast_class_blocks)], narrowed := true }
def TilePartsUptoSaid : Prop := tilePartsUptoRow.holds Tryd.pinned (OpenSpec.upto tilePartsSpec)

/-- 'lockfastlaw11.TileOne', WHERE WHAT IT READS IS OF BULK AT MOST 1048576: true; the input reads as it did. -/
def tileOneUptoRow : OpenClaim := { program := "ytflbmccjfnkflaadoor", sum := "3be858e4130b097c8dbbd42f27b5a433cd1e0734ae77d3714aaaf704d2ae9245", func := "lockfast/lockfastlaw11.TileOne", spec := "tileOne", unfollowed := true, recurses := true, named := ["lockfast/class.blocks"], apart := false, laid := [("lockfast/class.blocks", laid_lockfast_class_blocks)], narrowed := true }
def TileOneUptoSaid : Prop := tileOneUptoRow.holds Tryd.pinned (OpenSpec.upto tileOneSpec)

/-- 'lockfastlaw17.IndexFrees', WHERE WHAT IT READS IS OF BULK AT MOST 1048576: true; the input reads as it did. -/
def indexFreesUptoRow : OpenClaim := { program := "ytflbmccjfnkflaadoor", sum := "3be858e4130b097c8dbbd42f27b5a433cd1e0734ae77d3714aaaf704d2ae9245", func := "lockfast/lockfastlaw17.IndexFrees", spec := "indexFrees", unfollowed := true, recurses := true, named := ["lockfast/class.blocks"], apart := false, laid := [("lockfast/class.blocks", laid_lockfast_class_blocks)], narrowed := true }
def IndexFreesUptoSaid : Prop := indexFreesUptoRow.holds Tryd.pinned (OpenSpec.upto indexFreesSpec)

/-- 'lockfastlaw17.IndexNoSpace', WHERE WHAT IT READS IS OF BULK AT MOST 1048576: true; the input reads as it did. -/
def indexNoSpaceUptoRow : OpenClaim := { program := "ytflbmccjfnkflaadoor", sum := "3be858e4130b097c8dbbd42f27b5a433cd1e0734ae77d3714aaaf704d2ae9245", func := "lockfast/lockfastlaw17.IndexNoSpace", spec := "indexNoSpace", unfollowed := true, recurses := true, named := ["lockfast/class.blocks"], apart := false, laid := [("lockfast/class.blocks", laid_lockfast_class_blocks)], narrowed := true }
def IndexNoSpaceUptoSaid : Prop := indexNoSpaceUptoRow.holds Tryd.pinned (OpenSpec.upto indexNoSpaceSpec)

/-- 'lockfastlaw17.IndexPlays', WHERE WHAT IT READS IS OF BULK AT MOST 1048576: true; the input reads as it did. -/
def indexPlaysUptoRow : OpenClaim := { program := "ytflbmccjfnkflaadoor", sum := "3be858e4130b097c8dbbd42f27b5a433cd1e0734ae77d3714aaaf704d2ae9245", func := "lockfast/lockfastlaw17.IndexPlays", spec := "indexPlays", unfollowed := true, recurses := true, named := ["lockfast/class.blocks"], apart := false, laid := [("lockfast/class.blocks", laid_lockfast_class_blocks)], narrowed := true }
def IndexPlaysUptoSaid : Prop := indexPlaysUptoRow.holds Tryd.pinned (OpenSpec.upto indexPlaysSpec)

/-- 'lockfastlaw17.IndexDrops', WHERE WHAT IT READS IS OF BULK AT MOST 1048576: true; the input reads as it did. -/
def indexDropsUptoRow : OpenClaim := { program := "ytflbmccjfnkflaadoor", sum := "3be858e4130b097c8dbbd42f27b5a433cd1e0734ae77d3714aaaf704d2ae9245", func := "lockfast/lockfastlaw17.IndexDrops", spec := "indexDrops", unfollowed := true, recurses := true, named := ["lockfast/class.blocks"], apart := false, laid := [("lockfast/class.blocks", laid_lockfast_class_blocks)], narrowed := true }
def IndexDropsUptoSaid : Prop := indexDropsUptoRow.holds Tryd.pinned (OpenSpec.upto indexDropsSpec)

/-- 'lockfastlaw17.IndexApart', WHERE WHAT IT READS IS OF BULK AT MOST 1048576: true; the input reads as it did. -/
def indexApartUptoRow : OpenClaim := { program := "ytflbmccjfnkflaadoor", sum := "3be858e4130b097c8dbbd42f27b5a433cd1e0734ae77d3714aaaf704d2ae9245", func := "lockfast/lockfastlaw17.IndexApart", spec := "indexApart", unfollowed := true, recurses := true, named := ["lockfast/class.blocks"], apart := false, laid := [("lockfast/class.blocks", laid_lockfast_class_blocks)], narrowed := true }
def IndexApartUptoSaid : Prop := indexApartUptoRow.holds Tryd.pinned (OpenSpec.upto indexApartSpec)

/-- 'lockfastlaw11.TileTells', WHERE WHAT IT READS IS OF BULK AT MOST 1048576: true; the input reads as it did. -/
def tileTellsUptoRow : OpenClaim := { program := "ytflbmccjfnkflaadoor", sum := "3be858e4130b097c8dbbd42f27b5a433cd1e0734ae77d3714aaaf704d2ae9245", func := "lockfast/lockfastlaw11.TileTells", spec := "tileTells", unfollowed := true, recurses := true, named := ["lockfast/class.blocks"], apart := false, laid := [("lockfast/class.blocks", laid_lockfast_class_blocks)], narrowed := true }
def TileTellsUptoSaid : Prop := tileTellsUptoRow.holds Tryd.pinned (OpenSpec.upto tileTellsSpec)

/-- 'lockfastlaw11.TileWhole', WHERE WHAT IT READS IS OF BULK AT MOST 1048576: true; the input reads as it did. -/
def tileWholeUptoRow : OpenClaim := { program := "ytflbmccjfnkflaadoor", sum := "3be858e4130b097c8dbbd42f27b5a433cd1e0734ae77d3714aaaf704d2ae9245", func := "lockfast/lockfastlaw11.TileWhole", spec := "tileWhole", unfollowed := true, recurses := true, named := ["lockfast/class.blocks"], apart := false, laid := [("lockfast/class.blocks", laid_lockfast_class_blocks)], narrowed := true }
def TileWholeUptoSaid : Prop := tileWholeUptoRow.holds Tryd.pinned (OpenSpec.upto tileWholeSpec)

/-- 'lockfastlaw17.IndexTable', WHERE WHAT IT READS IS OF BULK AT MOST 1048576: true; the input reads as it did. -/
def indexTableUptoRow : OpenClaim := { program := "ytflbmccjfnkflaadoor", sum := "3be858e4130b097c8dbbd42f27b5a433cd1e0734ae77d3714aaaf704d2ae9245", func := "lockfast/lockfastlaw17.IndexTable", spec := "indexTable", unfollowed := true, recurses := true, named := ["lockfast/class.blocks"], apart := false, laid := [("lockfast/class.blocks", laid_lockfast_class_blocks)], narrowed := true }
def IndexTableUptoSaid : Prop := indexTableUptoRow.holds Tryd.pinned (OpenSpec.upto indexTableSpec)

end Rows
end Go.Proofs.YtflbmccjfnkflaaDoor
