/-
  DERIVED. GIVEN WITH THE SEED: THE CARDS: each row of YtjidejcehmamkaaGreatDoorRows.lean that lists a variable, with what it lists TIED to the program's text (the seventh form; the later family's looks); each row that meets fmt, with fmt's text TOLD by the authors' own Lean function (tested against real Go, not proved from fmt's source: count such statements apart). THE CARD IS WHAT COUNTS. Prove the row's statement (the work); the ties are given (YtjidejcehmamkaaGreatDoorTie.lean); close each card by the builder's one call (the guide's Derived/Test/ToyasCard.lean, 'card_holds'). Laid BY PROGRAM, IN A SANDBOX (cutbox-door.mjs). By AI agents, Wed Nov 11 2026. No macro, syntax, notation, axiom, sorry.
-/
import Derived.Test.YtjidejcehmamkaaGreatDoorRows
import GoSem.ClaimSeven
namespace Go.Proofs.YtjidejcehmamkaaGreatDoor
namespace Rows

/-- THE TIED CARD OF 'armillarylaw14.JurorLocks'. -/
def jurorLocksCard : Claim7 := { stood := { row := jurorLocksRow, standIns := [], harness := (true, "45a06ae9dd420f297086e2e08ef45fd8b16c1693e1775e87c9d2b422ff1b3d5e"), looks := false }, kinds := [], alts := [], laidByText := true, laidKinds := [.data], laidTests := true, laidLooks := .later }
def JurorLocksCardSaid : Prop := Claim7.holds Tryz.pinned (.plain (OpenSpec.ofChange jurorLocksSpec)) jurorLocksCard

/-- THE TIED CARD OF 'armillarylaw14.JurorVotes'. -/
def jurorVotesCard : Claim7 := { stood := { row := jurorVotesRow, standIns := [], harness := (true, "45a06ae9dd420f297086e2e08ef45fd8b16c1693e1775e87c9d2b422ff1b3d5e"), looks := false }, kinds := [], alts := [], laidByText := true, laidKinds := [.data], laidTests := true, laidLooks := .later }
def JurorVotesCardSaid : Prop := Claim7.holds Tryz.pinned (.plain (OpenSpec.ofChange jurorVotesSpec)) jurorVotesCard

/-- THE TIED CARD OF 'armillarylaw14.JurorAgain'. -/
def jurorAgainCard : Claim7 := { stood := { row := jurorAgainRow, standIns := [], harness := (true, "45a06ae9dd420f297086e2e08ef45fd8b16c1693e1775e87c9d2b422ff1b3d5e"), looks := false }, kinds := [], alts := [], laidByText := true, laidKinds := [.data], laidTests := true, laidLooks := .later }
def JurorAgainCardSaid : Prop := Claim7.holds Tryz.pinned (.plain (OpenSpec.ofChange jurorAgainSpec)) jurorAgainCard

/-- THE TIED CARD OF 'armillarylaw14.JurorPacks'. -/
def jurorPacksCard : Claim7 := { stood := { row := jurorPacksRow, standIns := [], harness := (true, "45a06ae9dd420f297086e2e08ef45fd8b16c1693e1775e87c9d2b422ff1b3d5e"), looks := false }, kinds := [], alts := [], laidByText := true, laidKinds := [.data], laidTests := true, laidLooks := .later }
def JurorPacksCardSaid : Prop := Claim7.holds Tryz.pinned (.plain (OpenSpec.ofChange jurorPacksSpec)) jurorPacksCard

/-- THE SECOND FORM's CARD OF 'armillarylaw14.JurorLocks'. -/
def jurorLocksUptoCard : Claim7 := { stood := { row := jurorLocksUptoRow, standIns := [], harness := (true, "45a06ae9dd420f297086e2e08ef45fd8b16c1693e1775e87c9d2b422ff1b3d5e"), looks := false }, kinds := [], alts := [], laidByText := true, laidKinds := [.data], laidTests := true, laidLooks := .later }
def JurorLocksUptoCardSaid : Prop := Claim7.holds Tryz.pinned (.plain (OpenSpec.upto jurorLocksSpec)) jurorLocksUptoCard

/-- THE SECOND FORM's CARD OF 'armillarylaw14.JurorVotes'. -/
def jurorVotesUptoCard : Claim7 := { stood := { row := jurorVotesUptoRow, standIns := [], harness := (true, "45a06ae9dd420f297086e2e08ef45fd8b16c1693e1775e87c9d2b422ff1b3d5e"), looks := false }, kinds := [], alts := [], laidByText := true, laidKinds := [.data], laidTests := true, laidLooks := .later }
def JurorVotesUptoCardSaid : Prop := Claim7.holds Tryz.pinned (.plain (OpenSpec.upto jurorVotesSpec)) jurorVotesUptoCard

/-- THE SECOND FORM's CARD OF 'armillarylaw14.JurorAgain'. -/
def jurorAgainUptoCard : Claim7 := { stood := { row := jurorAgainUptoRow, standIns := [], harness := (true, "45a06ae9dd420f297086e2e08ef45fd8b16c1693e1775e87c9d2b422ff1b3d5e"), looks := false }, kinds := [], alts := [], laidByText := true, laidKinds := [.data], laidTests := true, laidLooks := .later }
def JurorAgainUptoCardSaid : Prop := Claim7.holds Tryz.pinned (.plain (OpenSpec.upto jurorAgainSpec)) jurorAgainUptoCard

/-- THE SECOND FORM's CARD OF 'armillarylaw14.JurorPacks'. -/
def jurorPacksUptoCard : Claim7 := { stood := { row := jurorPacksUptoRow, standIns := [], harness := (true, "45a06ae9dd420f297086e2e08ef45fd8b16c1693e1775e87c9d2b422ff1b3d5e"), looks := false }, kinds := [], alts := [], laidByText := true, laidKinds := [.data], laidTests := true, laidLooks := .later }
def JurorPacksUptoCardSaid : Prop := Claim7.holds Tryz.pinned (.plain (OpenSpec.upto jurorPacksSpec)) jurorPacksUptoCard
end Rows
end Go.Proofs.YtjidejcehmamkaaGreatDoor
