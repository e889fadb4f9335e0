/-
  NARROWER THAN 'FOR EVERY INPUT', by the rows' own cells (each row's printed sentence says how): SoundTells: laid · SoundGiven: laid · SoundPlaces: laid · SoundApart: laid · SoundWords: laid · SoundDrops: laid · SoundTwins: laid.
  DERIVED. THE GIVEN ROWS OF THIS SEAT. 7 by the template 'for every input the law returns true; each argument reads behind the call as it read before'; 0 by the template 'total and deterministic' (their statements: YtbbpcbjgekencaaGreatDoorTotals.lean).
  GIVEN WITH THE SEED: the statements are not yours to turn. If you find one false, say at which input.
  Laid BY PROGRAM, IN A SANDBOX (cutbox-rows.mjs): the forced cells as the released guide's own fill.sh prints them over the translation b15a639a229d9190… (all of the seat's roots in one cut). By AI agents, Wed Nov 11 2026. No macro, syntax, notation, axiom, sorry.
-/
import Derived.Test.YtbbpcbjgekencaaGreatDoorChecked
import GoSem.Claim
import GoSem.ClaimJoined
import GoSem.ClaimMapViews
import Derived.JoinedTies
import Derived.KernelRfl
namespace Go.Proofs.YtbbpcbjgekencaaGreatDoor
/- THE CELL 'sum', in the pinned program and in every row, IS THE sha256 OF THE DUMP (.gsa) THAT YtbbpcbjgekencaaGreatDoorProg.lean LOADS. Nothing in Lean hashes anything: it is a label: what it is worth is what the hold of that sum in a sandbox is worth. -/
noncomputable def Tryz.pinned : Pinned := { name := "ytbbpcbjgekencaagreatdoor", sum := "b15a639a229d9190ef3175d32c153a1b3b156388b782daa0c9bc6dddaa9463ef", checked := Tryz.checked }
namespace Rows
def none {H : Type} : Left H := { results := [], args := [] }

/- WHAT THE LISTED PACKAGE-LEVEL VARIABLES READ AS WHEN THE CALL BEGINS. Each datum BY PROGRAM (the guide's laid-datum.mjs) off the statement by which the dump's own 'gosem.cut.vars' lays the variable. In a bare row this is a premise. The card (YtbbpcbjgekencaaGreatDoorCards.lean) ties it to the program's text. -/
def laid_lockfast_class_blocks {H : Type} : DataW H := .agg [.lit (.int .i64 4), .lit (.int .i64 8), .lit (.int .i64 16)]

/-- 'lockfastlaw16.SoundTells': WHATEVER THE INPUT: true; the input reads as it did. -/
def soundTellsSpec : ChangeSpec := { name := "soundTells", fn := fun _ => fun
  | [d1, d2] => { results := [.lit (.bool true)], args := [d1, d2] }
  | _ => none }
def soundTellsRow : OpenClaim := { program := "ytbbpcbjgekencaagreatdoor", sum := "b15a639a229d9190ef3175d32c153a1b3b156388b782daa0c9bc6dddaa9463ef", func := "lockfast/lockfastlaw16.SoundTells", spec := "soundTells", unfollowed := true, recurses := true, named := ["lockfast/class.blocks"], apart := false, laid := [("lockfast/class.blocks", laid_lockfast_class_blocks)] }
def SoundTellsSaid : Prop := soundTellsRow.holds Tryz.pinned (OpenSpec.ofChange soundTellsSpec)

/-- ITS FALSE NEIGHBOUR: 'it returns false'. Refute it at one input. -/
def soundTellsWrong : ChangeSpec := { name := "soundTells", fn := fun _ => fun
  | [d1, d2] => { results := [.lit (.bool false)], args := [d1, d2] }
  | _ => none }
def SoundTellsWrongFalsely : Prop := soundTellsRow.holds Tryz.pinned (OpenSpec.ofChange soundTellsWrong)

/-- 'lockfastlaw16.SoundGiven': WHATEVER THE INPUT: true; the input reads as it did. -/
def soundGivenSpec : ChangeSpec := { name := "soundGiven", fn := fun _ => fun
  | [d] => { results := [.lit (.bool true)], args := [d] }
  | _ => none }
def soundGivenRow : OpenClaim := { program := "ytbbpcbjgekencaagreatdoor", sum := "b15a639a229d9190ef3175d32c153a1b3b156388b782daa0c9bc6dddaa9463ef", func := "lockfast/lockfastlaw16.SoundGiven", spec := "soundGiven", unfollowed := true, recurses := true, named := ["lockfast/class.blocks"], apart := false, laid := [("lockfast/class.blocks", laid_lockfast_class_blocks)] }
def SoundGivenSaid : Prop := soundGivenRow.holds Tryz.pinned (OpenSpec.ofChange soundGivenSpec)

/-- ITS FALSE NEIGHBOUR: 'it returns false'. Refute it at one input. -/
def soundGivenWrong : ChangeSpec := { name := "soundGiven", fn := fun _ => fun
  | [d] => { results := [.lit (.bool false)], args := [d] }
  | _ => none }
def SoundGivenWrongFalsely : Prop := soundGivenRow.holds Tryz.pinned (OpenSpec.ofChange soundGivenWrong)

/-- 'lockfastlaw16.SoundPlaces': WHATEVER THE INPUT: true; the input reads as it did. -/
def soundPlacesSpec : ChangeSpec := { name := "soundPlaces", fn := fun _ => fun
  | [d] => { results := [.lit (.bool true)], args := [d] }
  | _ => none }
def soundPlacesRow : OpenClaim := { program := "ytbbpcbjgekencaagreatdoor", sum := "b15a639a229d9190ef3175d32c153a1b3b156388b782daa0c9bc6dddaa9463ef", func := "lockfast/lockfastlaw16.SoundPlaces", spec := "soundPlaces", unfollowed := true, recurses := true, named := ["lockfast/class.blocks"], apart := false, laid := [("lockfast/class.blocks", laid_lockfast_class_blocks)] }
def SoundPlacesSaid : Prop := soundPlacesRow.holds Tryz.pinned (OpenSpec.ofChange soundPlacesSpec)

/-- ITS FALSE NEIGHBOUR: 'it returns false'. Refute it at one input. -/
def soundPlacesWrong : ChangeSpec := { name := "soundPlaces", fn := fun _ => fun
  | [d] => { results := [.lit (.bool false)], args := [d] }
  | _ => none }
def SoundPlacesWrongFalsely : Prop := soundPlacesRow.holds Tryz.pinned (OpenSpec.ofChange soundPlacesWrong)

/-- 'lockfastlaw16.SoundApart': WHATEVER THE INPUT: true; the input reads as it did. -/
def soundApartSpec : ChangeSpec := { name := "soundApart", fn := fun _ => fun
  | [d1, d2] => { results := [.lit (.bool true)], args := [d1, d2] }
  | _ => none }
def soundApartRow : OpenClaim := { program := "ytbbpcbjgekencaagreatdoor", sum := "b15a639a229d9190ef3175d32c153a1b3b156388b782daa0c9bc6dddaa9463ef", func := "lockfast/lockfastlaw16.SoundApart", spec := "soundApart", unfollowed := true, recurses := true, named := ["lockfast/class.blocks"], apart := false, laid := [("lockfast/class.blocks", laid_lockfast_class_blocks)] }
def SoundApartSaid : Prop := soundApartRow.holds Tryz.pinned (OpenSpec.ofChange soundApartSpec)

/-- ITS FALSE NEIGHBOUR: 'it returns false'. Refute it at one input. -/
def soundApartWrong : ChangeSpec := { name := "soundApart", fn := fun _ => fun
  | [d1, d2] => { results := [.lit (.bool false)], args := [d1, d2] }
  | _ => none }
def SoundApartWrongFalsely : Prop := soundApartRow.holds Tryz.pinned (OpenSpec.ofChange soundApartWrong)

/-- 'lockfastlaw16.SoundWords': WHATEVER THE INPUT: true; the input reads as it did. -/
def soundWordsSpec : ChangeSpec := { name := "soundWords", fn := fun _ => fun
  | [d1, d2, d3, d4] => { results := [.lit (.bool true)], args := [d1, d2, d3, d4] }
  | _ => none }
def soundWordsRow : OpenClaim := { program := "ytbbpcbjgekencaagreatdoor", sum := "b15a639a229d9190ef3175d32c153a1b3b156388b782daa0c9bc6dddaa9463ef", func := "lockfast/lockfastlaw16.SoundWords", spec := "soundWords", unfollowed := true, recurses := true, named := ["lockfast/class.blocks"], apart := false, laid := [("lockfast/class.blocks", laid_lockfast_class_blocks)] }
def SoundWordsSaid : Prop := soundWordsRow.holds Tryz.pinned (OpenSpec.ofChange soundWordsSpec)

/-- ITS FALSE NEIGHBOUR: 'it returns false'. Refute it at one input. -/
def soundWordsWrong : ChangeSpec := { name := "soundWords", fn := fun _ => fun
  | [d1, d2, d3, d4] => { results := [.lit (.bool false)], args := [d1, d2, d3, d4] }
  | _ => none }
def SoundWordsWrongFalsely : Prop := soundWordsRow.holds Tryz.pinned (OpenSpec.ofChange soundWordsWrong)

/-- 'lockfastlaw16.SoundDrops': WHATEVER THE INPUT: true; the input reads as it did. -/
def soundDropsSpec : ChangeSpec := { name := "soundDrops", fn := fun _ => fun
  | [d1, d2] => { results := [.lit (.bool true)], args := [d1, d2] }
  | _ => none }
def soundDropsRow : OpenClaim := { program := "ytbbpcbjgekencaagreatdoor", sum := "b15a639a229d9190ef3175d32c153a1b3b156388b782daa0c9bc6dddaa9463ef", func := "lockfast/lockfastlaw16.SoundDrops", spec := "soundDrops", unfollowed := true, recurses := true, named := ["lockfast/class.blocks"], apart := false, laid := [("lockfast/class.blocks", laid_lockfast_class_blocks)] }
def SoundDropsSaid : Prop := soundDropsRow.holds Tryz.pinned (OpenSpec.ofChange soundDropsSpec)

/-- ITS FALSE NEIGHBOUR: 'it returns false'. Refute it at one input. -/
def soundDropsWrong : ChangeSpec := { name := "soundDrops", fn := fun _ => fun
  | [d1, d2] => { results := [.lit (.bool false)], args := [d1, d2] }
  | _ => none }
def SoundDropsWrongFalsely : Prop := soundDropsRow.holds Tryz.pinned (OpenSpec.ofChange soundDropsWrong)

/-- 'lockfastlaw16.SoundTwins': WHATEVER THE INPUT: true; the input reads as it did. -/
def soundTwinsSpec : ChangeSpec := { name := "soundTwins", fn := fun _ => fun
  | [d1, d2, d3, d4] => { results := [.lit (.bool true)], args := [d1, d2, d3, d4] }
  | _ => none }
def soundTwinsRow : OpenClaim := { program := "ytbbpcbjgekencaagreatdoor", sum := "b15a639a229d9190ef3175d32c153a1b3b156388b782daa0c9bc6dddaa9463ef", func := "lockfast/lockfastlaw16.SoundTwins", spec := "soundTwins", unfollowed := true, recurses := true, named := ["lockfast/class.blocks"], apart := false, laid := [("lockfast/class.blocks", laid_lockfast_class_blocks)] }
def SoundTwinsSaid : Prop := soundTwinsRow.holds Tryz.pinned (OpenSpec.ofChange soundTwinsSpec)

/-- ITS FALSE NEIGHBOUR: 'it returns false'. Refute it at one input. -/
def soundTwinsWrong : ChangeSpec := { name := "soundTwins", fn := fun _ => fun
  | [d1, d2, d3, d4] => { results := [.lit (.bool false)], args := [d1, d2, d3, d4] }
  | _ => none }
def SoundTwinsWrongFalsely : Prop := soundTwinsRow.holds Tryz.pinned (OpenSpec.ofChange soundTwinsWrong)

/- THE SECOND FORM. 'bulk': how many values and letters a reading holds, each counted each time it is reached (what is shared counts as often as it is met; a slice's spare places count too). A statement '..UptoSaid' is the law's where the arguments, and the package variables that the reading takes, are together of bulk at most 1048576: NARROWER than '..Said'. Prove '..Said' where nothing that the law and all that it calls make is longer than what came in: it says more and counts as full. Else prove '..UptoSaid'. A law counts once. -/
mutual
def uptoBulk {H : Type} : DataW H → Nat
  | .lit (.string bytes) => bytes.length + 1
  | .lit _ => 1
  | .nil => 1
  | .ptr d => uptoBulk d + 1
  | .slice elems spare => uptoBulkAll elems + uptoBulkAll spare + 1
  | .agg parts => uptoBulkAll parts + 1
  | .iface _ d => uptoBulk d + 1
  | .map entries => uptoBulkEntries entries + 1
  | .held _ => 1
def uptoBulkAll {H : Type} : List (DataW H) → Nat
  | [] => 0
  | d :: r => uptoBulk d + uptoBulkAll r
def uptoBulkEntries {H : Type} : List (Lit × DataW H) → Nat
  | [] => 0
  | x :: r => uptoBulkEntry x + uptoBulkEntries r
def uptoBulkEntry {H : Type} : Lit × DataW H → Nat
  | (.string bytes, d) => bytes.length + uptoBulk d + 1
  | (_, d) => uptoBulk d + 1
 end
def uptoSmall : (H : Type) → List (DataW H) → Bool := fun _ ds => decide (uptoBulkAll ds ≤ 1048576)
def OpenSpec.upto (s : _root_.Go.ChangeSpec) : _root_.Go.OpenSpec := { _root_.Go.OpenSpec.ofChange s with cond := some uptoSmall }

/-- 'lockfastlaw16.SoundTells', WHERE WHAT IT READS IS OF BULK AT MOST 1048576: true; the input reads as it did. -/
def soundTellsUptoRow : OpenClaim := { program := "ytbbpcbjgekencaagreatdoor", sum := "b15a639a229d9190ef3175d32c153a1b3b156388b782daa0c9bc6dddaa9463ef", func := "lockfast/lockfastlaw16.SoundTells", spec := "soundTells", unfollowed := true, recurses := true, named := ["lockfast/class.blocks"], apart := false, laid := [("lockfast/class.blocks", laid_lockfast_class_blocks)], narrowed := true }
def SoundTellsUptoSaid : Prop := soundTellsUptoRow.holds Tryz.pinned (OpenSpec.upto soundTellsSpec)

/-- 'lockfastlaw16.SoundGiven', WHERE WHAT IT READS IS OF BULK AT MOST 1048576: true; the input reads as it did. -/
def soundGivenUptoRow : OpenClaim := { program := "ytbbpcbjgekencaagreatdoor", sum := "b15a639a229d9190ef3175d32c153a1b3b156388b782daa0c9bc6dddaa9463ef", func := "lockfast/lockfastlaw16.SoundGiven", spec := "soundGiven", unfollowed := true, recurses := true, named := ["lockfast/class.blocks"], apart := false, laid := [("lockfast/class.blocks", laid_lockfast_class_blocks)], narrowed := true }
def SoundGivenUptoSaid : Prop := soundGivenUptoRow.holds Tryz.pinned (OpenSpec.upto soundGivenSpec)

/-- 'lockfastlaw16.SoundPlaces', WHERE WHAT IT READS IS OF BULK AT MOST 1048576: true; the input reads as it did. -/
def soundPlacesUptoRow : OpenClaim := { program := "ytbbpcbjgekencaagreatdoor", sum := "b15a639a229d9190ef3175d32c153a1b3b156388b782daa0c9bc6dddaa9463ef", func := "lockfast/lockfastlaw16.SoundPlaces", spec := "soundPlaces", unfollowed := true, recurses := true, named := ["lockfast/class.blocks"], apart := false, laid := [("lockfast/class.blocks", laid_lockfast_class_blocks)], narrowed := true }
def SoundPlacesUptoSaid : Prop := soundPlacesUptoRow.holds Tryz.pinned (OpenSpec.upto soundPlacesSpec)

/-- 'lockfastlaw16.SoundApart', WHERE WHAT IT READS IS OF BULK AT MOST 1048576: true; the input reads as it did. -/
def soundApartUptoRow : OpenClaim := { program := "ytbbpcbjgekencaagreatdoor", sum := "b15a639a229d9190ef3175d32c153a1b3b156388b782daa0c9bc6dddaa9463ef", func := "lockfast/lockfastlaw16.SoundApart", spec := "soundApart", unfollowed := true, recurses := true, named := ["lockfast/class.blocks"], apart := false, laid := [("lockfast/class.blocks", laid_lockfast_class_blocks)], narrowed := true }
def SoundApartUptoSaid : Prop := soundApartUptoRow.holds Tryz.pinned (OpenSpec.upto soundApartSpec)

/-- 'lockfastlaw16.SoundWords', WHERE WHAT IT READS IS OF BULK AT MOST 1048576: true; the input reads as it did. -/
def soundWordsUptoRow : OpenClaim := { program := "ytbbpcbjgekencaagreatdoor", sum := "b15a639a229d9190ef3175d32c153a1b3b156388b782daa0c9bc6dddaa9463ef", func := "lockfast/lockfastlaw16.SoundWords", spec := "soundWords", unfollowed := true, recurses := true, named := ["lockfast/class.blocks"], apart := false, laid := [("lockfast/class.blocks", laid_lockfast_class_blocks)], narrowed := true }
def SoundWordsUptoSaid : Prop := soundWordsUptoRow.holds Tryz.pinned (OpenSpec.upto soundWordsSpec)

/-- 'lockfastlaw16.SoundDrops', WHERE WHAT IT READS IS OF BULK AT MOST 1048576: true; the input reads as it did. -/
def soundDropsUptoRow : OpenClaim := { program := "ytbbpcbjgekencaagreatdoor", sum := "b15a639a229d9190ef3175d32c153a1b3b156388b782daa0c9bc6dddaa9463ef", func := "lockfast/lockfastlaw16.SoundDrops", spec := "soundDrops", unfollowed := true, recurses := true, named := ["lockfast/class.blocks"], apart := false, laid := [("lockfast/class.blocks", laid_lockfast_class_blocks)], narrowed := true }
def SoundDropsUptoSaid : Prop := soundDropsUptoRow.holds Tryz.pinned (OpenSpec.upto soundDropsSpec)

/-- 'lockfastlaw16.SoundTwins', WHERE WHAT IT READS IS OF BULK AT MOST 1048576: true; the input reads as it did. -/
def soundTwinsUptoRow : OpenClaim := { program := "ytbbpcbjgekencaagreatdoor", sum := "b15a639a229d9190ef3175d32c153a1b3b156388b782daa0c9bc6dddaa9463ef", func := "lockfast/lockfastlaw16.SoundTwins", spec := "soundTwins", unfollowed := true, recurses := true, named := ["lockfast/class.blocks"], apart := false, laid := [("lockfast/class.blocks", laid_lockfast_class_blocks)], narrowed := true }
def SoundTwinsUptoSaid : Prop := soundTwinsUptoRow.holds Tryz.pinned (OpenSpec.upto soundTwinsSpec)

end Rows
end Go.Proofs.YtbbpcbjgekencaaGreatDoor
