/-
  DERIVED. GIVEN WITH THE SEED: THE CARDS: each row of YtlbgepadkaehiaaDoorRows.lean that lists a variable, with what it lists TIED to the program's text (the seventh form; the later family's looks); each row that meets fmt, with fmt's text TOLD by the authors' own Lean function (tested against real Go, not proved from fmt's source: count such statements apart). THE CARD IS WHAT COUNTS. Prove the row's statement (the work); the ties are given (YtlbgepadkaehiaaDoorTie.lean); close each card by the builder's one call (the guide's Derived/Test/ToyasCard.lean, 'card_holds'). Laid BY PROGRAM, IN A SANDBOX (cutbox-door.mjs). By AI agents, Wed Nov 11 2026. No macro, syntax, notation, axiom, sorry.
-/
import Derived.Test.YtlbgepadkaehiaaDoorRows
import GoSem.ClaimSeven
namespace Go.Proofs.YtlbgepadkaehiaaDoor
namespace Rows

/-- THE TIED CARD OF 'lockfastlaw08.OidUnlike'. -/
def oidUnlikeCard : Claim7 := { stood := { row := oidUnlikeRow, standIns := [], harness := (true, "9bd44df2b3fb85e1b573aa11c166b8def14ca940d175c5ed8dd058a99f0fa192"), looks := true }, kinds := [], alts := [], laidByText := true, laidKinds := [.data, .data, .data, .sentinel, .sentinel], laidTests := true, laidLooks := .later }
def OidUnlikeCardSaid : Prop := Claim7.holds Tryd.pinned (.plain (OpenSpec.ofChange oidUnlikeSpec)) oidUnlikeCard

/-- THE TIED CARD OF 'lockfastlaw08.OidTexts'. -/
def oidTextsCard : Claim7 := { stood := { row := oidTextsRow, standIns := [], harness := (true, "9bd44df2b3fb85e1b573aa11c166b8def14ca940d175c5ed8dd058a99f0fa192"), looks := true }, kinds := [], alts := [], laidByText := true, laidKinds := [.data, .data, .data, .sentinel, .sentinel], laidTests := true, laidLooks := .later }
def OidTextsCardSaid : Prop := Claim7.holds Tryd.pinned (.plain (OpenSpec.ofChange oidTextsSpec)) oidTextsCard

/-- THE TIED CARD OF 'lockfastlaw08.OidHeaders'. -/
def oidHeadersCard : Claim7 := { stood := { row := oidHeadersRow, standIns := [], harness := (true, "9bd44df2b3fb85e1b573aa11c166b8def14ca940d175c5ed8dd058a99f0fa192"), looks := true }, kinds := [], alts := [], laidByText := true, laidKinds := [.data, .data, .data, .sentinel, .sentinel], laidTests := true, laidLooks := .later }
def OidHeadersCardSaid : Prop := Claim7.holds Tryd.pinned (.plain (OpenSpec.ofChange oidHeadersSpec)) oidHeadersCard

/-- THE TIED CARD OF 'lockfastlaw08.OidSigns'. -/
def oidSignsCard : Claim7 := { stood := { row := oidSignsRow, standIns := [], harness := (true, "9bd44df2b3fb85e1b573aa11c166b8def14ca940d175c5ed8dd058a99f0fa192"), looks := true }, kinds := [], alts := [], laidByText := true, laidKinds := [.data, .data, .data, .sentinel, .sentinel], laidTests := true, laidLooks := .later }
def OidSignsCardSaid : Prop := Claim7.holds Tryd.pinned (.plain (OpenSpec.ofChange oidSignsSpec)) oidSignsCard

/-- THE TIED CARD OF 'lockfastlaw08.OidBack'. -/
def oidBackCard : Claim7 := { stood := { row := oidBackRow, standIns := [], harness := (true, "9bd44df2b3fb85e1b573aa11c166b8def14ca940d175c5ed8dd058a99f0fa192"), looks := true }, kinds := [], alts := [], laidByText := true, laidKinds := [.data, .data, .data, .sentinel, .sentinel], laidTests := true, laidLooks := .later }
def OidBackCardSaid : Prop := Claim7.holds Tryd.pinned (.plain (OpenSpec.ofChange oidBackSpec)) oidBackCard

/-- THE SECOND FORM's CARD OF 'lockfastlaw08.OidUnlike'. -/
def oidUnlikeUptoCard : Claim7 := { stood := { row := oidUnlikeUptoRow, standIns := [], harness := (true, "9bd44df2b3fb85e1b573aa11c166b8def14ca940d175c5ed8dd058a99f0fa192"), looks := true }, kinds := [], alts := [], laidByText := true, laidKinds := [.data, .data, .data, .sentinel, .sentinel], laidTests := true, laidLooks := .later }
def OidUnlikeUptoCardSaid : Prop := Claim7.holds Tryd.pinned (.plain (OpenSpec.upto oidUnlikeSpec)) oidUnlikeUptoCard

/-- THE SECOND FORM's CARD OF 'lockfastlaw08.OidTexts'. -/
def oidTextsUptoCard : Claim7 := { stood := { row := oidTextsUptoRow, standIns := [], harness := (true, "9bd44df2b3fb85e1b573aa11c166b8def14ca940d175c5ed8dd058a99f0fa192"), looks := true }, kinds := [], alts := [], laidByText := true, laidKinds := [.data, .data, .data, .sentinel, .sentinel], laidTests := true, laidLooks := .later }
def OidTextsUptoCardSaid : Prop := Claim7.holds Tryd.pinned (.plain (OpenSpec.upto oidTextsSpec)) oidTextsUptoCard

/-- THE SECOND FORM's CARD OF 'lockfastlaw08.OidHeaders'. -/
def oidHeadersUptoCard : Claim7 := { stood := { row := oidHeadersUptoRow, standIns := [], harness := (true, "9bd44df2b3fb85e1b573aa11c166b8def14ca940d175c5ed8dd058a99f0fa192"), looks := true }, kinds := [], alts := [], laidByText := true, laidKinds := [.data, .data, .data, .sentinel, .sentinel], laidTests := true, laidLooks := .later }
def OidHeadersUptoCardSaid : Prop := Claim7.holds Tryd.pinned (.plain (OpenSpec.upto oidHeadersSpec)) oidHeadersUptoCard

/-- THE SECOND FORM's CARD OF 'lockfastlaw08.OidSigns'. -/
def oidSignsUptoCard : Claim7 := { stood := { row := oidSignsUptoRow, standIns := [], harness := (true, "9bd44df2b3fb85e1b573aa11c166b8def14ca940d175c5ed8dd058a99f0fa192"), looks := true }, kinds := [], alts := [], laidByText := true, laidKinds := [.data, .data, .data, .sentinel, .sentinel], laidTests := true, laidLooks := .later }
def OidSignsUptoCardSaid : Prop := Claim7.holds Tryd.pinned (.plain (OpenSpec.upto oidSignsSpec)) oidSignsUptoCard

/-- THE SECOND FORM's CARD OF 'lockfastlaw08.OidBack'. -/
def oidBackUptoCard : Claim7 := { stood := { row := oidBackUptoRow, standIns := [], harness := (true, "9bd44df2b3fb85e1b573aa11c166b8def14ca940d175c5ed8dd058a99f0fa192"), looks := true }, kinds := [], alts := [], laidByText := true, laidKinds := [.data, .data, .data, .sentinel, .sentinel], laidTests := true, laidLooks := .later }
def OidBackUptoCardSaid : Prop := Claim7.holds Tryd.pinned (.plain (OpenSpec.upto oidBackSpec)) oidBackUptoCard
end Rows
end Go.Proofs.YtlbgepadkaehiaaDoor
