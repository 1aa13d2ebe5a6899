/-
  DERIVED. GIVEN WITH THE SEED: THE CARDS: each row of YtaabageohhekdaaDoorRows.lean that lists a variable, with what it lists TIED to the program's text (the seventh form; the later family's looks); each row that meets fmt, with fmt's text TOLD by the authors' own Lean function (tested against real Go, not proved from fmt's source: count such statements apart). THE CARD IS WHAT COUNTS. Prove the row's statement (the work); the ties are given (YtaabageohhekdaaDoorTie.lean); close each card by the builder's one call (the guide's Derived/Test/ToyasCard.lean, 'card_holds'). Laid BY PROGRAM, IN A SANDBOX (cutbox-door.mjs). By AI agents, Wed Nov 11 2026. No macro, syntax, notation, axiom, sorry.
-/
import Derived.Test.YtaabageohhekdaaDoorRows
import GoSem.ClaimSeven
namespace Go.Proofs.YtaabageohhekdaaDoor
namespace Rows

/-- THE TIED CARD OF 'trustquorumlaw03.NotationTexts'. -/
def notationTextsCard : Claim7 := { stood := { row := notationTextsRow, standIns := [], harness := (true, "7b815c5f47ec390217a90fde6cfc6da748361be668b76b7c6a2ffb7bd99639bf"), looks := true }, kinds := [], alts := [], laidByText := true, laidKinds := [.data, .data, .data, .sentinel, .sentinel], laidTests := true, laidLooks := .later }
def NotationTextsCardSaid : Prop := Claim7.holds Tryd.pinned (.plain (OpenSpec.ofChange notationTextsSpec)) notationTextsCard

/-- THE TIED CARD OF 'trustquorumlaw03.NotationBlanks'. -/
def notationBlanksCard : Claim7 := { stood := { row := notationBlanksRow, standIns := [], harness := (true, "7b815c5f47ec390217a90fde6cfc6da748361be668b76b7c6a2ffb7bd99639bf"), looks := true }, kinds := [], alts := [], laidByText := true, laidKinds := [.data, .data, .data, .sentinel, .sentinel], laidTests := true, laidLooks := .later }
def NotationBlanksCardSaid : Prop := Claim7.holds Tryd.pinned (.plain (OpenSpec.ofChange notationBlanksSpec)) notationBlanksCard

/-- THE TIED CARD OF 'trustquorumlaw03.NotationCuts'. -/
def notationCutsCard : Claim7 := { stood := { row := notationCutsRow, standIns := [], harness := (true, "7b815c5f47ec390217a90fde6cfc6da748361be668b76b7c6a2ffb7bd99639bf"), looks := true }, kinds := [], alts := [], laidByText := true, laidKinds := [.data, .data, .data, .sentinel, .sentinel], laidTests := true, laidLooks := .later }
def NotationCutsCardSaid : Prop := Claim7.holds Tryd.pinned (.plain (OpenSpec.ofChange notationCutsSpec)) notationCutsCard

/-- THE TIED CARD OF 'trustquorumlaw03.NotationDiffers'. -/
def notationDiffersCard : Claim7 := { stood := { row := notationDiffersRow, standIns := [], harness := (true, "7b815c5f47ec390217a90fde6cfc6da748361be668b76b7c6a2ffb7bd99639bf"), looks := true }, kinds := [], alts := [], laidByText := true, laidKinds := [.data, .data, .data, .sentinel, .sentinel], laidTests := true, laidLooks := .later }
def NotationDiffersCardSaid : Prop := Claim7.holds Tryd.pinned (.plain (OpenSpec.ofChange notationDiffersSpec)) notationDiffersCard

/-- THE SECOND FORM's CARD OF 'trustquorumlaw03.NotationTexts'. -/
def notationTextsUptoCard : Claim7 := { stood := { row := notationTextsUptoRow, standIns := [], harness := (true, "7b815c5f47ec390217a90fde6cfc6da748361be668b76b7c6a2ffb7bd99639bf"), looks := true }, kinds := [], alts := [], laidByText := true, laidKinds := [.data, .data, .data, .sentinel, .sentinel], laidTests := true, laidLooks := .later }
def NotationTextsUptoCardSaid : Prop := Claim7.holds Tryd.pinned (.plain (OpenSpec.upto notationTextsSpec)) notationTextsUptoCard

/-- THE SECOND FORM's CARD OF 'trustquorumlaw03.NotationBlanks'. -/
def notationBlanksUptoCard : Claim7 := { stood := { row := notationBlanksUptoRow, standIns := [], harness := (true, "7b815c5f47ec390217a90fde6cfc6da748361be668b76b7c6a2ffb7bd99639bf"), looks := true }, kinds := [], alts := [], laidByText := true, laidKinds := [.data, .data, .data, .sentinel, .sentinel], laidTests := true, laidLooks := .later }
def NotationBlanksUptoCardSaid : Prop := Claim7.holds Tryd.pinned (.plain (OpenSpec.upto notationBlanksSpec)) notationBlanksUptoCard

/-- THE SECOND FORM's CARD OF 'trustquorumlaw03.NotationCuts'. -/
def notationCutsUptoCard : Claim7 := { stood := { row := notationCutsUptoRow, standIns := [], harness := (true, "7b815c5f47ec390217a90fde6cfc6da748361be668b76b7c6a2ffb7bd99639bf"), looks := true }, kinds := [], alts := [], laidByText := true, laidKinds := [.data, .data, .data, .sentinel, .sentinel], laidTests := true, laidLooks := .later }
def NotationCutsUptoCardSaid : Prop := Claim7.holds Tryd.pinned (.plain (OpenSpec.upto notationCutsSpec)) notationCutsUptoCard

/-- THE SECOND FORM's CARD OF 'trustquorumlaw03.NotationDiffers'. -/
def notationDiffersUptoCard : Claim7 := { stood := { row := notationDiffersUptoRow, standIns := [], harness := (true, "7b815c5f47ec390217a90fde6cfc6da748361be668b76b7c6a2ffb7bd99639bf"), looks := true }, kinds := [], alts := [], laidByText := true, laidKinds := [.data, .data, .data, .sentinel, .sentinel], laidTests := true, laidLooks := .later }
def NotationDiffersUptoCardSaid : Prop := Claim7.holds Tryd.pinned (.plain (OpenSpec.upto notationDiffersSpec)) notationDiffersUptoCard
end Rows
end Go.Proofs.YtaabageohhekdaaDoor
