/-
  DERIVED. GIVEN WITH THE SEED: THE CARDS: each row of YthkahljlmncdiaaDoorRows.lean that lists a variable, with what it lists TIED to the program's text (the seventh form; the later family's looks); each row that meets fmt, with fmt's text TOLD by the authors' own Lean function (tested against real Go, not proved from fmt's source: count such statements apart). THE CARD IS WHAT COUNTS. Prove the row's statement (the work); the ties are given (YthkahljlmncdiaaDoorTie.lean); close each card by the builder's one call (the guide's Derived/Test/ToyasCard.lean, 'card_holds'). Laid BY PROGRAM, IN A SANDBOX (cutbox-door.mjs). By AI agents, Wed Nov 11 2026. No macro, syntax, notation, axiom, sorry.
-/
import Derived.Test.YthkahljlmncdiaaDoorRows
import GoSem.ClaimSeven
namespace Go.Proofs.YthkahljlmncdiaaDoor
namespace Rows

/-- THE TIED CARD OF 'trustquorumlaw07.DeclarationTags'. -/
def declarationTagsCard : Claim7 := { stood := { row := declarationTagsRow, standIns := [], harness := (true, "84f9c4055f224afd7bb1a8e839f888aa9f7d28332101bc8869807d130009fc09"), looks := false }, kinds := [], alts := [], laidByText := true, laidKinds := [.data, .data, .data], laidTests := true, laidLooks := .later }
def DeclarationTagsCardSaid : Prop := Claim7.holds Tryd.pinned (.plain (OpenSpec.ofChange declarationTagsSpec)) declarationTagsCard

/-- THE TIED CARD OF 'trustquorumlaw07.DeclarationProves'. -/
def declarationProvesCard : Claim7 := { stood := { row := declarationProvesRow, standIns := [], harness := (true, "84f9c4055f224afd7bb1a8e839f888aa9f7d28332101bc8869807d130009fc09"), looks := false }, kinds := [], alts := [], laidByText := true, laidKinds := [.data, .data, .data], laidTests := true, laidLooks := .later }
def DeclarationProvesCardSaid : Prop := Claim7.holds Tryd.pinned (.plain (OpenSpec.ofChange declarationProvesSpec)) declarationProvesCard

/-- THE TIED CARD OF 'trustquorumlaw07.DeclarationOrders'. -/
def declarationOrdersCard : Claim7 := { stood := { row := declarationOrdersRow, standIns := [], harness := (true, "84f9c4055f224afd7bb1a8e839f888aa9f7d28332101bc8869807d130009fc09"), looks := false }, kinds := [], alts := [], laidByText := true, laidKinds := [.data, .data, .data], laidTests := true, laidLooks := .later }
def DeclarationOrdersCardSaid : Prop := Claim7.holds Tryd.pinned (.plain (OpenSpec.ofChange declarationOrdersSpec)) declarationOrdersCard

/-- THE SECOND FORM's CARD OF 'trustquorumlaw07.DeclarationTags'. -/
def declarationTagsUptoCard : Claim7 := { stood := { row := declarationTagsUptoRow, standIns := [], harness := (true, "84f9c4055f224afd7bb1a8e839f888aa9f7d28332101bc8869807d130009fc09"), looks := false }, kinds := [], alts := [], laidByText := true, laidKinds := [.data, .data, .data], laidTests := true, laidLooks := .later }
def DeclarationTagsUptoCardSaid : Prop := Claim7.holds Tryd.pinned (.plain (OpenSpec.upto declarationTagsSpec)) declarationTagsUptoCard

/-- THE SECOND FORM's CARD OF 'trustquorumlaw07.DeclarationProves'. -/
def declarationProvesUptoCard : Claim7 := { stood := { row := declarationProvesUptoRow, standIns := [], harness := (true, "84f9c4055f224afd7bb1a8e839f888aa9f7d28332101bc8869807d130009fc09"), looks := false }, kinds := [], alts := [], laidByText := true, laidKinds := [.data, .data, .data], laidTests := true, laidLooks := .later }
def DeclarationProvesUptoCardSaid : Prop := Claim7.holds Tryd.pinned (.plain (OpenSpec.upto declarationProvesSpec)) declarationProvesUptoCard

/-- THE SECOND FORM's CARD OF 'trustquorumlaw07.DeclarationOrders'. -/
def declarationOrdersUptoCard : Claim7 := { stood := { row := declarationOrdersUptoRow, standIns := [], harness := (true, "84f9c4055f224afd7bb1a8e839f888aa9f7d28332101bc8869807d130009fc09"), looks := false }, kinds := [], alts := [], laidByText := true, laidKinds := [.data, .data, .data], laidTests := true, laidLooks := .later }
def DeclarationOrdersUptoCardSaid : Prop := Claim7.holds Tryd.pinned (.plain (OpenSpec.upto declarationOrdersSpec)) declarationOrdersUptoCard
end Rows
end Go.Proofs.YthkahljlmncdiaaDoor
