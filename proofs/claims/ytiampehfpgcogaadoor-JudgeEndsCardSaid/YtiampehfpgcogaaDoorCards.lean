/-
  DERIVED. GIVEN WITH THE SEED: THE CARDS: each row of YtiampehfpgcogaaDoorRows.lean that lists a variable, with what it lists TIED to the program's text (the seventh form; the later family's looks); each row that meets fmt, with fmt's text TOLD by the authors' own Lean function (tested against real Go, not proved from fmt's source: count such statements apart). THE CARD IS WHAT COUNTS. Prove the row's statement (the work); the ties are given (YtiampehfpgcogaaDoorTie.lean); close each card by the builder's one call (the guide's Derived/Test/ToyasCard.lean, 'card_holds'). Laid BY PROGRAM, IN A SANDBOX (cutbox-door.mjs). By AI agents, Wed Nov 11 2026. No macro, syntax, notation, axiom, sorry.
-/
import Derived.Test.YtiampehfpgcogaaDoorRows
import GoSem.ClaimSeven
namespace Go.Proofs.YtiampehfpgcogaaDoor
namespace Rows

/-- THE TIED CARD OF 'armillarylaw15.JudgeOnce'. -/
def judgeOnceCard : Claim7 := { stood := { row := judgeOnceRow, standIns := [], harness := (true, "79c1daac48915e7935707d64a18f3c6cc8a953d5799a3dcc0b7b47f128234fcb"), looks := false }, kinds := [], alts := [], laidByText := true, laidKinds := [.data], laidTests := true, laidLooks := .later }
def JudgeOnceCardSaid : Prop := Claim7.holds Tryd.pinned (.plain (OpenSpec.ofChange judgeOnceSpec)) judgeOnceCard

/-- THE TIED CARD OF 'armillarylaw15.JudgeEnds'. -/
def judgeEndsCard : Claim7 := { stood := { row := judgeEndsRow, standIns := [], harness := (true, "79c1daac48915e7935707d64a18f3c6cc8a953d5799a3dcc0b7b47f128234fcb"), looks := false }, kinds := [], alts := [], laidByText := true, laidKinds := [.data], laidTests := true, laidLooks := .later }
def JudgeEndsCardSaid : Prop := Claim7.holds Tryd.pinned (.plain (OpenSpec.ofChange judgeEndsSpec)) judgeEndsCard

/-- THE SECOND FORM's CARD OF 'armillarylaw15.JudgeOnce'. -/
def judgeOnceUptoCard : Claim7 := { stood := { row := judgeOnceUptoRow, standIns := [], harness := (true, "79c1daac48915e7935707d64a18f3c6cc8a953d5799a3dcc0b7b47f128234fcb"), looks := false }, kinds := [], alts := [], laidByText := true, laidKinds := [.data], laidTests := true, laidLooks := .later }
def JudgeOnceUptoCardSaid : Prop := Claim7.holds Tryd.pinned (.plain (OpenSpec.upto judgeOnceSpec)) judgeOnceUptoCard

/-- THE SECOND FORM's CARD OF 'armillarylaw15.JudgeEnds'. -/
def judgeEndsUptoCard : Claim7 := { stood := { row := judgeEndsUptoRow, standIns := [], harness := (true, "79c1daac48915e7935707d64a18f3c6cc8a953d5799a3dcc0b7b47f128234fcb"), looks := false }, kinds := [], alts := [], laidByText := true, laidKinds := [.data], laidTests := true, laidLooks := .later }
def JudgeEndsUptoCardSaid : Prop := Claim7.holds Tryd.pinned (.plain (OpenSpec.upto judgeEndsSpec)) judgeEndsUptoCard
end Rows
end Go.Proofs.YtiampehfpgcogaaDoor
