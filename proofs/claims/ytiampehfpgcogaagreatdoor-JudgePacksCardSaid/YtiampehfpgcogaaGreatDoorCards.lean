/-
  DERIVED. GIVEN WITH THE SEED: THE CARDS: each row of YtiampehfpgcogaaGreatDoorRows.lean that lists a variable, with what it lists TIED to the program's text (the seventh form; the later family's looks); each row that meets fmt, with fmt's text TOLD by the authors' own Lean function (tested against real Go, not proved from fmt's source: count such statements apart). THE CARD IS WHAT COUNTS. Prove the row's statement (the work); the ties are given (YtiampehfpgcogaaGreatDoorTie.lean); close each card by the builder's one call (the guide's Derived/Test/ToyasCard.lean, 'card_holds'). Laid BY PROGRAM, IN A SANDBOX (cutbox-door.mjs). By AI agents, Wed Nov 11 2026. No macro, syntax, notation, axiom, sorry.
-/
import Derived.Test.YtiampehfpgcogaaGreatDoorRows
import GoSem.ClaimSeven
namespace Go.Proofs.YtiampehfpgcogaaGreatDoor
namespace Rows

/-- THE TIED CARD OF 'armillarylaw15.JudgeQuits'. -/
def judgeQuitsCard : Claim7 := { stood := { row := judgeQuitsRow, standIns := [], harness := (true, "8146c561e84e8826fe61b6659dc6154d378e3df714809499f5a4a027b80574ca"), looks := false }, kinds := [], alts := [], laidByText := true, laidKinds := [.data], laidTests := true, laidLooks := .later }
def JudgeQuitsCardSaid : Prop := Claim7.holds Tryz.pinned (.plain (OpenSpec.ofChange judgeQuitsSpec)) judgeQuitsCard

/-- THE TIED CARD OF 'armillarylaw15.JudgeAsks'. -/
def judgeAsksCard : Claim7 := { stood := { row := judgeAsksRow, standIns := [], harness := (true, "8146c561e84e8826fe61b6659dc6154d378e3df714809499f5a4a027b80574ca"), looks := false }, kinds := [], alts := [], laidByText := true, laidKinds := [.data], laidTests := true, laidLooks := .later }
def JudgeAsksCardSaid : Prop := Claim7.holds Tryz.pinned (.plain (OpenSpec.ofChange judgeAsksSpec)) judgeAsksCard

/-- THE TIED CARD OF 'armillarylaw15.JudgePlays'. -/
def judgePlaysCard : Claim7 := { stood := { row := judgePlaysRow, standIns := [], harness := (true, "8146c561e84e8826fe61b6659dc6154d378e3df714809499f5a4a027b80574ca"), looks := false }, kinds := [], alts := [], laidByText := true, laidKinds := [.data], laidTests := true, laidLooks := .later }
def JudgePlaysCardSaid : Prop := Claim7.holds Tryz.pinned (.plain (OpenSpec.ofChange judgePlaysSpec)) judgePlaysCard

/-- THE TIED CARD OF 'armillarylaw15.JudgeReigns'. -/
def judgeReignsCard : Claim7 := { stood := { row := judgeReignsRow, standIns := [], harness := (true, "8146c561e84e8826fe61b6659dc6154d378e3df714809499f5a4a027b80574ca"), looks := false }, kinds := [], alts := [], laidByText := true, laidKinds := [.data], laidTests := true, laidLooks := .later }
def JudgeReignsCardSaid : Prop := Claim7.holds Tryz.pinned (.plain (OpenSpec.ofChange judgeReignsSpec)) judgeReignsCard

/-- THE TIED CARD OF 'armillarylaw15.JudgePacks'. -/
def judgePacksCard : Claim7 := { stood := { row := judgePacksRow, standIns := [], harness := (true, "8146c561e84e8826fe61b6659dc6154d378e3df714809499f5a4a027b80574ca"), looks := false }, kinds := [], alts := [], laidByText := true, laidKinds := [.data], laidTests := true, laidLooks := .later }
def JudgePacksCardSaid : Prop := Claim7.holds Tryz.pinned (.plain (OpenSpec.ofChange judgePacksSpec)) judgePacksCard

/-- THE SECOND FORM's CARD OF 'armillarylaw15.JudgeQuits'. -/
def judgeQuitsUptoCard : Claim7 := { stood := { row := judgeQuitsUptoRow, standIns := [], harness := (true, "8146c561e84e8826fe61b6659dc6154d378e3df714809499f5a4a027b80574ca"), looks := false }, kinds := [], alts := [], laidByText := true, laidKinds := [.data], laidTests := true, laidLooks := .later }
def JudgeQuitsUptoCardSaid : Prop := Claim7.holds Tryz.pinned (.plain (OpenSpec.upto judgeQuitsSpec)) judgeQuitsUptoCard

/-- THE SECOND FORM's CARD OF 'armillarylaw15.JudgeAsks'. -/
def judgeAsksUptoCard : Claim7 := { stood := { row := judgeAsksUptoRow, standIns := [], harness := (true, "8146c561e84e8826fe61b6659dc6154d378e3df714809499f5a4a027b80574ca"), looks := false }, kinds := [], alts := [], laidByText := true, laidKinds := [.data], laidTests := true, laidLooks := .later }
def JudgeAsksUptoCardSaid : Prop := Claim7.holds Tryz.pinned (.plain (OpenSpec.upto judgeAsksSpec)) judgeAsksUptoCard

/-- THE SECOND FORM's CARD OF 'armillarylaw15.JudgePlays'. -/
def judgePlaysUptoCard : Claim7 := { stood := { row := judgePlaysUptoRow, standIns := [], harness := (true, "8146c561e84e8826fe61b6659dc6154d378e3df714809499f5a4a027b80574ca"), looks := false }, kinds := [], alts := [], laidByText := true, laidKinds := [.data], laidTests := true, laidLooks := .later }
def JudgePlaysUptoCardSaid : Prop := Claim7.holds Tryz.pinned (.plain (OpenSpec.upto judgePlaysSpec)) judgePlaysUptoCard

/-- THE SECOND FORM's CARD OF 'armillarylaw15.JudgeReigns'. -/
def judgeReignsUptoCard : Claim7 := { stood := { row := judgeReignsUptoRow, standIns := [], harness := (true, "8146c561e84e8826fe61b6659dc6154d378e3df714809499f5a4a027b80574ca"), looks := false }, kinds := [], alts := [], laidByText := true, laidKinds := [.data], laidTests := true, laidLooks := .later }
def JudgeReignsUptoCardSaid : Prop := Claim7.holds Tryz.pinned (.plain (OpenSpec.upto judgeReignsSpec)) judgeReignsUptoCard

/-- THE SECOND FORM's CARD OF 'armillarylaw15.JudgePacks'. -/
def judgePacksUptoCard : Claim7 := { stood := { row := judgePacksUptoRow, standIns := [], harness := (true, "8146c561e84e8826fe61b6659dc6154d378e3df714809499f5a4a027b80574ca"), looks := false }, kinds := [], alts := [], laidByText := true, laidKinds := [.data], laidTests := true, laidLooks := .later }
def JudgePacksUptoCardSaid : Prop := Claim7.holds Tryz.pinned (.plain (OpenSpec.upto judgePacksSpec)) judgePacksUptoCard
end Rows
end Go.Proofs.YtiampehfpgcogaaGreatDoor
