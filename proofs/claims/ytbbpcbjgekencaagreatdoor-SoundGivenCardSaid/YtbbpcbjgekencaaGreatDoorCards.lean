/-
  DERIVED. GIVEN WITH THE SEED: THE CARDS: each row of YtbbpcbjgekencaaGreatDoorRows.lean that lists a variable, with what it lists TIED to the program's text (the seventh form; the later family's looks); each row that meets fmt, with fmt's text TOLD by the authors' own Lean function (tested against real Go, not proved from fmt's source: count such statements apart). THE CARD IS WHAT COUNTS. Prove the row's statement (the work); the ties are given (YtbbpcbjgekencaaGreatDoorTie.lean); close each card by the builder's one call (the guide's Derived/Test/ToyasCard.lean, 'card_holds'). Laid BY PROGRAM, IN A SANDBOX (cutbox-door.mjs). By AI agents, Wed Nov 11 2026. No macro, syntax, notation, axiom, sorry.
-/
import Derived.Test.YtbbpcbjgekencaaGreatDoorRows
import GoSem.ClaimSeven
namespace Go.Proofs.YtbbpcbjgekencaaGreatDoor
namespace Rows

/-- THE TIED CARD OF 'lockfastlaw16.SoundTells'. -/
def soundTellsCard : Claim7 := { stood := { row := soundTellsRow, standIns := [], harness := (true, "dc4e9b891edc5c8b4494cbe6241a9cc58a248d5a50f9db53bc5e97807b5db03b"), looks := false }, kinds := [], alts := [], laidByText := true, laidKinds := [.data], laidTests := true, laidLooks := .later }
def SoundTellsCardSaid : Prop := Claim7.holds Tryz.pinned (.plain (OpenSpec.ofChange soundTellsSpec)) soundTellsCard

/-- THE TIED CARD OF 'lockfastlaw16.SoundGiven'. -/
def soundGivenCard : Claim7 := { stood := { row := soundGivenRow, standIns := [], harness := (true, "dc4e9b891edc5c8b4494cbe6241a9cc58a248d5a50f9db53bc5e97807b5db03b"), looks := false }, kinds := [], alts := [], laidByText := true, laidKinds := [.data], laidTests := true, laidLooks := .later }
def SoundGivenCardSaid : Prop := Claim7.holds Tryz.pinned (.plain (OpenSpec.ofChange soundGivenSpec)) soundGivenCard

/-- THE TIED CARD OF 'lockfastlaw16.SoundPlaces'. -/
def soundPlacesCard : Claim7 := { stood := { row := soundPlacesRow, standIns := [], harness := (true, "dc4e9b891edc5c8b4494cbe6241a9cc58a248d5a50f9db53bc5e97807b5db03b"), looks := false }, kinds := [], alts := [], laidByText := true, laidKinds := [.data], laidTests := true, laidLooks := .later }
def SoundPlacesCardSaid : Prop := Claim7.holds Tryz.pinned (.plain (OpenSpec.ofChange soundPlacesSpec)) soundPlacesCard

/-- THE TIED CARD OF 'lockfastlaw16.SoundApart'. -/
def soundApartCard : Claim7 := { stood := { row := soundApartRow, standIns := [], harness := (true, "dc4e9b891edc5c8b4494cbe6241a9cc58a248d5a50f9db53bc5e97807b5db03b"), looks := false }, kinds := [], alts := [], laidByText := true, laidKinds := [.data], laidTests := true, laidLooks := .later }
def SoundApartCardSaid : Prop := Claim7.holds Tryz.pinned (.plain (OpenSpec.ofChange soundApartSpec)) soundApartCard

/-- THE TIED CARD OF 'lockfastlaw16.SoundWords'. -/
def soundWordsCard : Claim7 := { stood := { row := soundWordsRow, standIns := [], harness := (true, "dc4e9b891edc5c8b4494cbe6241a9cc58a248d5a50f9db53bc5e97807b5db03b"), looks := false }, kinds := [], alts := [], laidByText := true, laidKinds := [.data], laidTests := true, laidLooks := .later }
def SoundWordsCardSaid : Prop := Claim7.holds Tryz.pinned (.plain (OpenSpec.ofChange soundWordsSpec)) soundWordsCard

/-- THE TIED CARD OF 'lockfastlaw16.SoundDrops'. -/
def soundDropsCard : Claim7 := { stood := { row := soundDropsRow, standIns := [], harness := (true, "dc4e9b891edc5c8b4494cbe6241a9cc58a248d5a50f9db53bc5e97807b5db03b"), looks := false }, kinds := [], alts := [], laidByText := true, laidKinds := [.data], laidTests := true, laidLooks := .later }
def SoundDropsCardSaid : Prop := Claim7.holds Tryz.pinned (.plain (OpenSpec.ofChange soundDropsSpec)) soundDropsCard

/-- THE TIED CARD OF 'lockfastlaw16.SoundTwins'. -/
def soundTwinsCard : Claim7 := { stood := { row := soundTwinsRow, standIns := [], harness := (true, "dc4e9b891edc5c8b4494cbe6241a9cc58a248d5a50f9db53bc5e97807b5db03b"), looks := false }, kinds := [], alts := [], laidByText := true, laidKinds := [.data], laidTests := true, laidLooks := .later }
def SoundTwinsCardSaid : Prop := Claim7.holds Tryz.pinned (.plain (OpenSpec.ofChange soundTwinsSpec)) soundTwinsCard

/-- THE SECOND FORM's CARD OF 'lockfastlaw16.SoundTells'. -/
def soundTellsUptoCard : Claim7 := { stood := { row := soundTellsUptoRow, standIns := [], harness := (true, "dc4e9b891edc5c8b4494cbe6241a9cc58a248d5a50f9db53bc5e97807b5db03b"), looks := false }, kinds := [], alts := [], laidByText := true, laidKinds := [.data], laidTests := true, laidLooks := .later }
def SoundTellsUptoCardSaid : Prop := Claim7.holds Tryz.pinned (.plain (OpenSpec.upto soundTellsSpec)) soundTellsUptoCard

/-- THE SECOND FORM's CARD OF 'lockfastlaw16.SoundGiven'. -/
def soundGivenUptoCard : Claim7 := { stood := { row := soundGivenUptoRow, standIns := [], harness := (true, "dc4e9b891edc5c8b4494cbe6241a9cc58a248d5a50f9db53bc5e97807b5db03b"), looks := false }, kinds := [], alts := [], laidByText := true, laidKinds := [.data], laidTests := true, laidLooks := .later }
def SoundGivenUptoCardSaid : Prop := Claim7.holds Tryz.pinned (.plain (OpenSpec.upto soundGivenSpec)) soundGivenUptoCard

/-- THE SECOND FORM's CARD OF 'lockfastlaw16.SoundPlaces'. -/
def soundPlacesUptoCard : Claim7 := { stood := { row := soundPlacesUptoRow, standIns := [], harness := (true, "dc4e9b891edc5c8b4494cbe6241a9cc58a248d5a50f9db53bc5e97807b5db03b"), looks := false }, kinds := [], alts := [], laidByText := true, laidKinds := [.data], laidTests := true, laidLooks := .later }
def SoundPlacesUptoCardSaid : Prop := Claim7.holds Tryz.pinned (.plain (OpenSpec.upto soundPlacesSpec)) soundPlacesUptoCard

/-- THE SECOND FORM's CARD OF 'lockfastlaw16.SoundApart'. -/
def soundApartUptoCard : Claim7 := { stood := { row := soundApartUptoRow, standIns := [], harness := (true, "dc4e9b891edc5c8b4494cbe6241a9cc58a248d5a50f9db53bc5e97807b5db03b"), looks := false }, kinds := [], alts := [], laidByText := true, laidKinds := [.data], laidTests := true, laidLooks := .later }
def SoundApartUptoCardSaid : Prop := Claim7.holds Tryz.pinned (.plain (OpenSpec.upto soundApartSpec)) soundApartUptoCard

/-- THE SECOND FORM's CARD OF 'lockfastlaw16.SoundWords'. -/
def soundWordsUptoCard : Claim7 := { stood := { row := soundWordsUptoRow, standIns := [], harness := (true, "dc4e9b891edc5c8b4494cbe6241a9cc58a248d5a50f9db53bc5e97807b5db03b"), looks := false }, kinds := [], alts := [], laidByText := true, laidKinds := [.data], laidTests := true, laidLooks := .later }
def SoundWordsUptoCardSaid : Prop := Claim7.holds Tryz.pinned (.plain (OpenSpec.upto soundWordsSpec)) soundWordsUptoCard

/-- THE SECOND FORM's CARD OF 'lockfastlaw16.SoundDrops'. -/
def soundDropsUptoCard : Claim7 := { stood := { row := soundDropsUptoRow, standIns := [], harness := (true, "dc4e9b891edc5c8b4494cbe6241a9cc58a248d5a50f9db53bc5e97807b5db03b"), looks := false }, kinds := [], alts := [], laidByText := true, laidKinds := [.data], laidTests := true, laidLooks := .later }
def SoundDropsUptoCardSaid : Prop := Claim7.holds Tryz.pinned (.plain (OpenSpec.upto soundDropsSpec)) soundDropsUptoCard

/-- THE SECOND FORM's CARD OF 'lockfastlaw16.SoundTwins'. -/
def soundTwinsUptoCard : Claim7 := { stood := { row := soundTwinsUptoRow, standIns := [], harness := (true, "dc4e9b891edc5c8b4494cbe6241a9cc58a248d5a50f9db53bc5e97807b5db03b"), looks := false }, kinds := [], alts := [], laidByText := true, laidKinds := [.data], laidTests := true, laidLooks := .later }
def SoundTwinsUptoCardSaid : Prop := Claim7.holds Tryz.pinned (.plain (OpenSpec.upto soundTwinsSpec)) soundTwinsUptoCard
end Rows
end Go.Proofs.YtbbpcbjgekencaaGreatDoor
