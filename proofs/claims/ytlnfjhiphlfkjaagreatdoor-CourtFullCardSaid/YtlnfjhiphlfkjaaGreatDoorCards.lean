/-
  DERIVED. GIVEN WITH THE SEED: THE CARDS: each row of YtlnfjhiphlfkjaaGreatDoorRows.lean that lists a variable, with what it lists TIED to the program's text (the seventh form; the later family's looks); each row that meets fmt, with fmt's text TOLD by the authors' own Lean function (tested against real Go, not proved from fmt's source: count such statements apart). THE CARD IS WHAT COUNTS. Prove the row's statement (the work); the ties are given (YtlnfjhiphlfkjaaGreatDoorTie.lean); close each card by the builder's one call (the guide's Derived/Test/ToyasCard.lean, 'card_holds'). Laid BY PROGRAM, IN A SANDBOX (cutbox-door.mjs). By AI agents, Wed Nov 11 2026. No macro, syntax, notation, axiom, sorry.
-/
import Derived.Test.YtlnfjhiphlfkjaaGreatDoorRows
import GoSem.ClaimSeven
namespace Go.Proofs.YtlnfjhiphlfkjaaGreatDoor
namespace Rows

/-- THE TIED CARD OF 'armillarylaw18.CourtFull'. -/
def courtFullCard : Claim7 := { stood := { row := courtFullRow, standIns := [], harness := (true, "611f975ca222ce3bc0ba80f96d8435f183c2656bac5e354bff63e501cddf5525"), looks := true }, kinds := [], alts := [], laidByText := true, laidKinds := [.data, .data, .data, .sentinel, .sentinel, .data, .data], laidTests := true, laidLooks := .later }
def CourtFullCardSaid : Prop := Claim7.holds Tryz.pinned (.plain (OpenSpec.ofChange courtFullSpec)) courtFullCard

/-- THE TIED CARD OF 'armillarylaw18.CourtNil'. -/
def courtNilCard : Claim7 := { stood := { row := courtNilRow, standIns := [], harness := (true, "611f975ca222ce3bc0ba80f96d8435f183c2656bac5e354bff63e501cddf5525"), looks := true }, kinds := [], alts := [], laidByText := true, laidKinds := [.data, .data, .data, .sentinel, .sentinel, .data, .data], laidTests := true, laidLooks := .later }
def CourtNilCardSaid : Prop := Claim7.holds Tryz.pinned (.plain (OpenSpec.ofChange courtNilSpec)) courtNilCard

/-- THE SECOND FORM's CARD OF 'armillarylaw18.CourtFull'. -/
def courtFullUptoCard : Claim7 := { stood := { row := courtFullUptoRow, standIns := [], harness := (true, "611f975ca222ce3bc0ba80f96d8435f183c2656bac5e354bff63e501cddf5525"), looks := true }, kinds := [], alts := [], laidByText := true, laidKinds := [.data, .data, .data, .sentinel, .sentinel, .data, .data], laidTests := true, laidLooks := .later }
def CourtFullUptoCardSaid : Prop := Claim7.holds Tryz.pinned (.plain (OpenSpec.upto courtFullSpec)) courtFullUptoCard

/-- THE SECOND FORM's CARD OF 'armillarylaw18.CourtNil'. -/
def courtNilUptoCard : Claim7 := { stood := { row := courtNilUptoRow, standIns := [], harness := (true, "611f975ca222ce3bc0ba80f96d8435f183c2656bac5e354bff63e501cddf5525"), looks := true }, kinds := [], alts := [], laidByText := true, laidKinds := [.data, .data, .data, .sentinel, .sentinel, .data, .data], laidTests := true, laidLooks := .later }
def CourtNilUptoCardSaid : Prop := Claim7.holds Tryz.pinned (.plain (OpenSpec.upto courtNilSpec)) courtNilUptoCard
end Rows
end Go.Proofs.YtlnfjhiphlfkjaaGreatDoor
