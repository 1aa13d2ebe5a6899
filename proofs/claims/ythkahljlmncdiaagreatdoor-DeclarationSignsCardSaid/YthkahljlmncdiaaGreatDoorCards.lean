/-
  DERIVED. GIVEN WITH THE SEED: THE CARDS: each row of YthkahljlmncdiaaGreatDoorRows.lean that lists a variable, with what it lists TIED to the program's text (the seventh form; the later family's looks); each row that meets fmt, with fmt's text TOLD by the authors' own Lean function (tested against real Go, not proved from fmt's source: count such statements apart). THE CARD IS WHAT COUNTS. Prove the row's statement (the work); the ties are given (YthkahljlmncdiaaGreatDoorTie.lean); close each card by the builder's one call (the guide's Derived/Test/ToyasCard.lean, 'card_holds'). Laid BY PROGRAM, IN A SANDBOX (cutbox-door.mjs). By AI agents, Wed Nov 11 2026. No macro, syntax, notation, axiom, sorry.
-/
import Derived.Test.YthkahljlmncdiaaGreatDoorRows
import GoSem.ClaimSeven
namespace Go.Proofs.YthkahljlmncdiaaGreatDoor
namespace Rows

/-- THE TIED CARD OF 'trustquorumlaw07.DeclarationSigns'. -/
def declarationSignsCard : Claim7 := { stood := { row := declarationSignsRow, standIns := [], harness := (true, "0199bbcb9767b766f94dfc0d6ce4867fb67845233f129eba7566da2cf0399124"), looks := true }, kinds := [], alts := [], laidByText := true, laidKinds := [.data, .data, .data, .sentinel, .sentinel], laidTests := true, laidLooks := .later }
def DeclarationSignsCardSaid : Prop := Claim7.holds Tryz.pinned (.plain (OpenSpec.ofChange declarationSignsSpec)) declarationSignsCard

/-- THE TIED CARD OF 'trustquorumlaw07.DeclarationAnswers'. -/
def declarationAnswersCard : Claim7 := { stood := { row := declarationAnswersRow, standIns := [], harness := (true, "0199bbcb9767b766f94dfc0d6ce4867fb67845233f129eba7566da2cf0399124"), looks := true }, kinds := [], alts := [], laidByText := true, laidKinds := [.data, .data, .data, .sentinel, .sentinel], laidTests := true, laidLooks := .later }
def DeclarationAnswersCardSaid : Prop := Claim7.holds Tryz.pinned (.plain (OpenSpec.ofChange declarationAnswersSpec)) declarationAnswersCard

/-- THE SECOND FORM's CARD OF 'trustquorumlaw07.DeclarationSigns'. -/
def declarationSignsUptoCard : Claim7 := { stood := { row := declarationSignsUptoRow, standIns := [], harness := (true, "0199bbcb9767b766f94dfc0d6ce4867fb67845233f129eba7566da2cf0399124"), looks := true }, kinds := [], alts := [], laidByText := true, laidKinds := [.data, .data, .data, .sentinel, .sentinel], laidTests := true, laidLooks := .later }
def DeclarationSignsUptoCardSaid : Prop := Claim7.holds Tryz.pinned (.plain (OpenSpec.upto declarationSignsSpec)) declarationSignsUptoCard

/-- THE SECOND FORM's CARD OF 'trustquorumlaw07.DeclarationAnswers'. -/
def declarationAnswersUptoCard : Claim7 := { stood := { row := declarationAnswersUptoRow, standIns := [], harness := (true, "0199bbcb9767b766f94dfc0d6ce4867fb67845233f129eba7566da2cf0399124"), looks := true }, kinds := [], alts := [], laidByText := true, laidKinds := [.data, .data, .data, .sentinel, .sentinel], laidTests := true, laidLooks := .later }
def DeclarationAnswersUptoCardSaid : Prop := Claim7.holds Tryz.pinned (.plain (OpenSpec.upto declarationAnswersSpec)) declarationAnswersUptoCard
end Rows
end Go.Proofs.YthkahljlmncdiaaGreatDoor
