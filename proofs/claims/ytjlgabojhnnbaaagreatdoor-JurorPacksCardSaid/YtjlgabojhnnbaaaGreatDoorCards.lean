/-
  DERIVED. GIVEN WITH THE SEED: THE CARDS: each row of YtjlgabojhnnbaaaGreatDoorRows.lean that lists a variable, with what it lists TIED to the program's text (the seventh form; the later family's looks); each row that meets fmt, with fmt's text TOLD by the authors' own Lean function (tested against real Go, not proved from fmt's source: count such statements apart). THE CARD IS WHAT COUNTS. Prove the row's statement (the work); the ties are given (YtjlgabojhnnbaaaGreatDoorTie.lean); close each card by the builder's one call (the guide's Derived/Test/ToyasCard.lean, 'card_holds'). Laid BY PROGRAM, IN A SANDBOX (cutbox-door.mjs). By AI agents, Wed Nov 11 2026. No macro, syntax, notation, axiom, sorry.
-/
import Derived.Test.YtjlgabojhnnbaaaGreatDoorRows
import GoSem.ClaimSeven
namespace Go.Proofs.YtjlgabojhnnbaaaGreatDoor
namespace Rows

/-- THE TIED CARD OF 'armillarylaw14.JurorPacks'. -/
def jurorPacksCard : Claim7 := { stood := { row := jurorPacksRow, standIns := [], harness := (true, "443d4fffc47c40f1ca64bfebe164348a2cd555bbd514de0da19e66b06df0226b"), looks := false }, kinds := [], alts := [], laidByText := true, laidKinds := [.data], laidTests := true, laidLooks := .later }
def JurorPacksCardSaid : Prop := Claim7.holds Tryz.pinned (.plain (OpenSpec.ofChange jurorPacksSpec)) jurorPacksCard

/-- THE SECOND FORM's CARD OF 'armillarylaw14.JurorPacks'. -/
def jurorPacksUptoCard : Claim7 := { stood := { row := jurorPacksUptoRow, standIns := [], harness := (true, "443d4fffc47c40f1ca64bfebe164348a2cd555bbd514de0da19e66b06df0226b"), looks := false }, kinds := [], alts := [], laidByText := true, laidKinds := [.data], laidTests := true, laidLooks := .later }
def JurorPacksUptoCardSaid : Prop := Claim7.holds Tryz.pinned (.plain (OpenSpec.upto jurorPacksSpec)) jurorPacksUptoCard
end Rows
end Go.Proofs.YtjlgabojhnnbaaaGreatDoor
