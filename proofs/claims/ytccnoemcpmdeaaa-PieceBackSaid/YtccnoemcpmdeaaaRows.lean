/-
  No cell of these rows narrows 'for every input' (looked for: loops, veiled, ifaces, maps, wideKeys, modest, calm, conditions, laid).
  DERIVED. THE GIVEN ROWS OF THIS SEAT. 5 by the template 'for every input the law returns true; each argument reads behind the call as it read before'; 0 by the template 'total and deterministic' (their statements: YtccnoemcpmdeaaaTotals.lean).
  GIVEN WITH THE SEED: the statements are not yours to turn. If you find one false, say at which input.
  Laid BY PROGRAM, IN A SANDBOX (cutbox-rows.mjs): the forced cells as the released guide's own fill.sh prints them over the translation ec86f8834bd73662… (all of the seat's roots in one cut). By AI agents, Wed Nov 11 2026. No macro, syntax, notation, axiom, sorry.
-/
import Derived.Test.YtccnoemcpmdeaaaChecked
import GoSem.Claim
import GoSem.ClaimJoined
import GoSem.ClaimMapViews
import Derived.JoinedTies
import Derived.KernelRfl
namespace Go.Proofs.Ytccnoemcpmdeaaa
/- THE CELL 'sum', in the pinned program and in every row, IS THE sha256 OF THE DUMP (.gsa) THAT YtccnoemcpmdeaaaProg.lean LOADS. Nothing in Lean hashes anything: it is a label: what it is worth is what the hold of that sum in a sandbox is worth. -/
noncomputable def Try.pinned : Pinned := { name := "ytccnoemcpmdeaaa", sum := "ec86f8834bd73662fdfc422e38d5bc4c8f5fc41c0bddcee89925b31116c1a81f", checked := Try.checked }
namespace Rows
def none {H : Type} : Left H := { results := [], args := [] }

/-- 'lockfastlaw14.PieceTells': WHATEVER THE INPUT: true; the input reads as it did. -/
def pieceTellsSpec : ChangeSpec := { name := "pieceTells", fn := fun _ => fun
  | [d1, d2, d3] => { results := [.lit (.bool true)], args := [d1, d2, d3] }
  | _ => none }
def pieceTellsRow : OpenClaim := { program := "ytccnoemcpmdeaaa", sum := "ec86f8834bd73662fdfc422e38d5bc4c8f5fc41c0bddcee89925b31116c1a81f", func := "lockfast/lockfastlaw14.PieceTells", spec := "pieceTells", unfollowed := true, recurses := true, apart := false }
def PieceTellsSaid : Prop := pieceTellsRow.holds Try.pinned (OpenSpec.ofChange pieceTellsSpec)

/-- ITS FALSE NEIGHBOUR: 'it returns false'. Refute it at one input. -/
def pieceTellsWrong : ChangeSpec := { name := "pieceTells", fn := fun _ => fun
  | [d1, d2, d3] => { results := [.lit (.bool false)], args := [d1, d2, d3] }
  | _ => none }
def PieceTellsWrongFalsely : Prop := pieceTellsRow.holds Try.pinned (OpenSpec.ofChange pieceTellsWrong)

/-- 'lockfastlaw14.PieceCuts': WHATEVER THE INPUT: true; the input reads as it did. -/
def pieceCutsSpec : ChangeSpec := { name := "pieceCuts", fn := fun _ => fun
  | [d1, d2, d3, d4, d5] => { results := [.lit (.bool true)], args := [d1, d2, d3, d4, d5] }
  | _ => none }
def pieceCutsRow : OpenClaim := { program := "ytccnoemcpmdeaaa", sum := "ec86f8834bd73662fdfc422e38d5bc4c8f5fc41c0bddcee89925b31116c1a81f", func := "lockfast/lockfastlaw14.PieceCuts", spec := "pieceCuts", unfollowed := true, recurses := true, apart := false }
def PieceCutsSaid : Prop := pieceCutsRow.holds Try.pinned (OpenSpec.ofChange pieceCutsSpec)

/-- ITS FALSE NEIGHBOUR: 'it returns false'. Refute it at one input. -/
def pieceCutsWrong : ChangeSpec := { name := "pieceCuts", fn := fun _ => fun
  | [d1, d2, d3, d4, d5] => { results := [.lit (.bool false)], args := [d1, d2, d3, d4, d5] }
  | _ => none }
def PieceCutsWrongFalsely : Prop := pieceCutsRow.holds Try.pinned (OpenSpec.ofChange pieceCutsWrong)

/-- 'lockfastlaw14.PieceParts': WHATEVER THE INPUT: true; the input reads as it did. -/
def piecePartsSpec : ChangeSpec := { name := "pieceParts", fn := fun _ => fun
  | [d1, d2, d3, d4] => { results := [.lit (.bool true)], args := [d1, d2, d3, d4] }
  | _ => none }
def piecePartsRow : OpenClaim := { program := "ytccnoemcpmdeaaa", sum := "ec86f8834bd73662fdfc422e38d5bc4c8f5fc41c0bddcee89925b31116c1a81f", func := "lockfast/lockfastlaw14.PieceParts", spec := "pieceParts", unfollowed := true, recurses := true, apart := false }
def PiecePartsSaid : Prop := piecePartsRow.holds Try.pinned (OpenSpec.ofChange piecePartsSpec)

/-- ITS FALSE NEIGHBOUR: 'it returns false'. Refute it at one input. -/
def piecePartsWrong : ChangeSpec := { name := "pieceParts", fn := fun _ => fun
  | [d1, d2, d3, d4] => { results := [.lit (.bool false)], args := [d1, d2, d3, d4] }
  | _ => none }
def PiecePartsWrongFalsely : Prop := piecePartsRow.holds Try.pinned (OpenSpec.ofChange piecePartsWrong)

/-- 'lockfastlaw14.PieceLays': WHATEVER THE INPUT: true; the input reads as it did. -/
def pieceLaysSpec : ChangeSpec := { name := "pieceLays", fn := fun _ => fun
  | [d1, d2, d3] => { results := [.lit (.bool true)], args := [d1, d2, d3] }
  | _ => none }
def pieceLaysRow : OpenClaim := { program := "ytccnoemcpmdeaaa", sum := "ec86f8834bd73662fdfc422e38d5bc4c8f5fc41c0bddcee89925b31116c1a81f", func := "lockfast/lockfastlaw14.PieceLays", spec := "pieceLays", unfollowed := true, recurses := true, apart := false }
def PieceLaysSaid : Prop := pieceLaysRow.holds Try.pinned (OpenSpec.ofChange pieceLaysSpec)

/-- ITS FALSE NEIGHBOUR: 'it returns false'. Refute it at one input. -/
def pieceLaysWrong : ChangeSpec := { name := "pieceLays", fn := fun _ => fun
  | [d1, d2, d3] => { results := [.lit (.bool false)], args := [d1, d2, d3] }
  | _ => none }
def PieceLaysWrongFalsely : Prop := pieceLaysRow.holds Try.pinned (OpenSpec.ofChange pieceLaysWrong)

/-- 'lockfastlaw14.PieceBack': WHATEVER THE INPUT: true; the input reads as it did. -/
def pieceBackSpec : ChangeSpec := { name := "pieceBack", fn := fun _ => fun
  | [d1, d2, d3] => { results := [.lit (.bool true)], args := [d1, d2, d3] }
  | _ => none }
def pieceBackRow : OpenClaim := { program := "ytccnoemcpmdeaaa", sum := "ec86f8834bd73662fdfc422e38d5bc4c8f5fc41c0bddcee89925b31116c1a81f", func := "lockfast/lockfastlaw14.PieceBack", spec := "pieceBack", unfollowed := true, recurses := true, apart := false }
def PieceBackSaid : Prop := pieceBackRow.holds Try.pinned (OpenSpec.ofChange pieceBackSpec)

/-- ITS FALSE NEIGHBOUR: 'it returns false'. Refute it at one input. -/
def pieceBackWrong : ChangeSpec := { name := "pieceBack", fn := fun _ => fun
  | [d1, d2, d3] => { results := [.lit (.bool false)], args := [d1, d2, d3] }
  | _ => none }
def PieceBackWrongFalsely : Prop := pieceBackRow.holds Try.pinned (OpenSpec.ofChange pieceBackWrong)

/- THE SECOND FORM. 'bulk': how many values and letters a reading holds, each counted each time it is reached (what is shared counts as often as it is met; a slice's spare places count too). A statement '..UptoSaid' is the law's where the arguments, and the package variables that the reading takes, are together of bulk at most 1048576: NARROWER than '..Said'. Prove '..Said' where nothing that the law and all that it calls make is longer than what came in: it says more and counts as full. Else prove '..UptoSaid'. A law counts once. -/
mutual
def uptoBulk {H : Type} : DataW H → Nat
  | .lit (.string bytes) => bytes.length + 1
  | .lit _ => 1
  | .nil => 1
  | .ptr d => uptoBulk d + 1
  | .slice elems spare => uptoBulkAll elems + uptoBulkAll spare + 1
  | .agg parts => uptoBulkAll parts + 1
  | .iface _ d => uptoBulk d + 1
  | .map entries => uptoBulkEntries entries + 1
  | .held _ => 1
def uptoBulkAll {H : Type} : List (DataW H) → Nat
  | [] => 0
  | d :: r => uptoBulk d + uptoBulkAll r
def uptoBulkEntries {H : Type} : List (Lit × DataW H) → Nat
  | [] => 0
  | x :: r => uptoBulkEntry x + uptoBulkEntries r
def uptoBulkEntry {H : Type} : Lit × DataW H → Nat
  | (.string bytes, d) => bytes.length + uptoBulk d + 1
  | (_, d) => uptoBulk d + 1
 end
def uptoSmall : (H : Type) → List (DataW H) → Bool := fun _ ds => decide (uptoBulkAll ds ≤ 1048576)
def OpenSpec.upto (s : _root_.Go.ChangeSpec) : _root_.Go.OpenSpec := { _root_.Go.OpenSpec.ofChange s with cond := some uptoSmall }

/-- 'lockfastlaw14.PieceTells', WHERE WHAT IT READS IS OF BULK AT MOST 1048576: true; the input reads as it did. -/
def pieceTellsUptoRow : OpenClaim := { program := "ytccnoemcpmdeaaa", sum := "ec86f8834bd73662fdfc422e38d5bc4c8f5fc41c0bddcee89925b31116c1a81f", func := "lockfast/lockfastlaw14.PieceTells", spec := "pieceTells", unfollowed := true, recurses := true, apart := false, narrowed := true }
def PieceTellsUptoSaid : Prop := pieceTellsUptoRow.holds Try.pinned (OpenSpec.upto pieceTellsSpec)

/-- 'lockfastlaw14.PieceCuts', WHERE WHAT IT READS IS OF BULK AT MOST 1048576: true; the input reads as it did. -/
def pieceCutsUptoRow : OpenClaim := { program := "ytccnoemcpmdeaaa", sum := "ec86f8834bd73662fdfc422e38d5bc4c8f5fc41c0bddcee89925b31116c1a81f", func := "lockfast/lockfastlaw14.PieceCuts", spec := "pieceCuts", unfollowed := true, recurses := true, apart := false, narrowed := true }
def PieceCutsUptoSaid : Prop := pieceCutsUptoRow.holds Try.pinned (OpenSpec.upto pieceCutsSpec)

/-- 'lockfastlaw14.PieceParts', WHERE WHAT IT READS IS OF BULK AT MOST 1048576: true; the input reads as it did. -/
def piecePartsUptoRow : OpenClaim := { program := "ytccnoemcpmdeaaa", sum := "ec86f8834bd73662fdfc422e38d5bc4c8f5fc41c0bddcee89925b31116c1a81f", func := "lockfast/lockfastlaw14.PieceParts", spec := "pieceParts", unfollowed := true, recurses := true, apart := false, narrowed := true }
def PiecePartsUptoSaid : Prop := piecePartsUptoRow.holds Try.pinned (OpenSpec.upto piecePartsSpec)

/-- 'lockfastlaw14.PieceLays', WHERE WHAT IT READS IS OF BULK AT MOST 1048576: true; the input reads as it did. -/
def pieceLaysUptoRow : OpenClaim := { program := "ytccnoemcpmdeaaa", sum := "ec86f8834bd73662fdfc422e38d5bc4c8f5fc41c0bddcee89925b31116c1a81f", func := "lockfast/lockfastlaw14.PieceLays", spec := "pieceLays", unfollowed := true, recurses := true, apart := false, narrowed := true }
def PieceLaysUptoSaid : Prop := pieceLaysUptoRow.holds Try.pinned (OpenSpec.upto pieceLaysSpec)

/-- 'lockfastlaw14.PieceBack', WHERE WHAT IT READS IS OF BULK AT MOST 1048576: true; the input reads as it did. -/
def pieceBackUptoRow : OpenClaim := { program := "ytccnoemcpmdeaaa", sum := "ec86f8834bd73662fdfc422e38d5bc4c8f5fc41c0bddcee89925b31116c1a81f", func := "lockfast/lockfastlaw14.PieceBack", spec := "pieceBack", unfollowed := true, recurses := true, apart := false, narrowed := true }
def PieceBackUptoSaid : Prop := pieceBackUptoRow.holds Try.pinned (OpenSpec.upto pieceBackSpec)

end Rows
end Go.Proofs.Ytccnoemcpmdeaaa
