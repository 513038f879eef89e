/-
  DERIVED. GIVEN WITH THE SEED: THE CARDS: each row of YtjidejcehmamkaaDoorRows.lean that lists a variable, with what it lists TIED to the program's text (the seventh form; the later family's looks); each row that meets fmt, with fmt's text TOLD by the authors' own Lean function (tested against real Go, not proved from fmt's source: count such statements apart). THE CARD IS WHAT COUNTS. Prove the row's statement (the work); the ties are given (YtjidejcehmamkaaDoorTie.lean); close each card by the builder's one call (the guide's Derived/Test/ToyasCard.lean, 'card_holds'). Laid BY PROGRAM, IN A SANDBOX (cutbox-door.mjs). By AI agents, Wed Nov 11 2026. No macro, syntax, notation, axiom, sorry.
-/
import Derived.Test.YtjidejcehmamkaaDoorRows
import GoSem.ClaimSeven
namespace Go.Proofs.YtjidejcehmamkaaDoor
namespace Rows

/-- THE TIED CARD OF 'armillarylaw14.JurorOnce'. -/
def jurorOnceCard : Claim7 := { stood := { row := jurorOnceRow, standIns := [], harness := (true, "aa72ebda26a40ba729589a407e2c64a82a85fa2ab4e04d6d46e806065e9ecd46"), looks := false }, kinds := [], alts := [], laidByText := true, laidKinds := [.data], laidTests := true, laidLooks := .later }
def JurorOnceCardSaid : Prop := Claim7.holds Tryd.pinned (.plain (OpenSpec.ofChange jurorOnceSpec)) jurorOnceCard

/-- THE SECOND FORM's CARD OF 'armillarylaw14.JurorOnce'. -/
def jurorOnceUptoCard : Claim7 := { stood := { row := jurorOnceUptoRow, standIns := [], harness := (true, "aa72ebda26a40ba729589a407e2c64a82a85fa2ab4e04d6d46e806065e9ecd46"), looks := false }, kinds := [], alts := [], laidByText := true, laidKinds := [.data], laidTests := true, laidLooks := .later }
def JurorOnceUptoCardSaid : Prop := Claim7.holds Tryd.pinned (.plain (OpenSpec.upto jurorOnceSpec)) jurorOnceUptoCard
end Rows
end Go.Proofs.YtjidejcehmamkaaDoor
