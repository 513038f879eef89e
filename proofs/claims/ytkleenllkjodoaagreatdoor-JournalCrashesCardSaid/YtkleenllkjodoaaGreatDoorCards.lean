/-
  DERIVED. GIVEN WITH THE SEED: THE CARDS: each row of YtkleenllkjodoaaGreatDoorRows.lean that lists a variable, with what it lists TIED to the program's text (the seventh form; the later family's looks); each row that meets fmt, with fmt's text TOLD by the authors' own Lean function (tested against real Go, not proved from fmt's source: count such statements apart). THE CARD IS WHAT COUNTS. Prove the row's statement (the work); the ties are given (YtkleenllkjodoaaGreatDoorTie.lean); close each card by the builder's one call (the guide's Derived/Test/ToyasCard.lean, 'card_holds'). Laid BY PROGRAM, IN A SANDBOX (cutbox-door.mjs). By AI agents, Wed Nov 11 2026. No macro, syntax, notation, axiom, sorry.
-/
import Derived.Test.YtkleenllkjodoaaGreatDoorRows
import GoSem.ClaimSeven
namespace Go.Proofs.YtkleenllkjodoaaGreatDoor
namespace Rows

/-- THE TIED CARD OF 'armillarylaw06.JournalAll'. -/
def journalAllCard : Claim7 := { stood := { row := journalAllRow, standIns := [], harness := (true, "0bb3753f45006ae1f9c53a816a077b2a7b0d04d98605ffcc8988551a9140f822"), looks := true }, kinds := [], alts := [], laidByText := true, laidKinds := [.data, .data, .data, .sentinel, .sentinel, .data], laidTests := true, laidLooks := .later }
def JournalAllCardSaid : Prop := Claim7.holds Tryz.pinned (.plain (OpenSpec.ofChange journalAllSpec)) journalAllCard

/-- THE TIED CARD OF 'armillarylaw06.JournalMany'. -/
def journalManyCard : Claim7 := { stood := { row := journalManyRow, standIns := [], harness := (true, "0bb3753f45006ae1f9c53a816a077b2a7b0d04d98605ffcc8988551a9140f822"), looks := true }, kinds := [], alts := [], laidByText := true, laidKinds := [.data, .data, .data, .sentinel, .sentinel, .data], laidTests := true, laidLooks := .later }
def JournalManyCardSaid : Prop := Claim7.holds Tryz.pinned (.plain (OpenSpec.ofChange journalManySpec)) journalManyCard

/-- THE TIED CARD OF 'armillarylaw06.JournalForms'. -/
def journalFormsCard : Claim7 := { stood := { row := journalFormsRow, standIns := [], harness := (true, "0bb3753f45006ae1f9c53a816a077b2a7b0d04d98605ffcc8988551a9140f822"), looks := true }, kinds := [], alts := [], laidByText := true, laidKinds := [.data, .data, .data, .sentinel, .sentinel, .data], laidTests := true, laidLooks := .later }
def JournalFormsCardSaid : Prop := Claim7.holds Tryz.pinned (.plain (OpenSpec.ofChange journalFormsSpec)) journalFormsCard

/-- THE TIED CARD OF 'armillarylaw06.JournalCrashes'. -/
def journalCrashesCard : Claim7 := { stood := { row := journalCrashesRow, standIns := [], harness := (true, "0bb3753f45006ae1f9c53a816a077b2a7b0d04d98605ffcc8988551a9140f822"), looks := true }, kinds := [], alts := [], laidByText := true, laidKinds := [.data, .data, .data, .sentinel, .sentinel, .data], laidTests := true, laidLooks := .later }
def JournalCrashesCardSaid : Prop := Claim7.holds Tryz.pinned (.plain (OpenSpec.ofChange journalCrashesSpec)) journalCrashesCard

/-- THE TIED CARD OF 'armillarylaw06.JournalSaves'. -/
def journalSavesCard : Claim7 := { stood := { row := journalSavesRow, standIns := [], harness := (true, "0bb3753f45006ae1f9c53a816a077b2a7b0d04d98605ffcc8988551a9140f822"), looks := true }, kinds := [], alts := [], laidByText := true, laidKinds := [.data, .data, .data, .sentinel, .sentinel, .data], laidTests := true, laidLooks := .later }
def JournalSavesCardSaid : Prop := Claim7.holds Tryz.pinned (.plain (OpenSpec.ofChange journalSavesSpec)) journalSavesCard

/-- THE TIED CARD OF 'armillarylaw06.JournalNil'. -/
def journalNilCard : Claim7 := { stood := { row := journalNilRow, standIns := [], harness := (true, "0bb3753f45006ae1f9c53a816a077b2a7b0d04d98605ffcc8988551a9140f822"), looks := true }, kinds := [], alts := [], laidByText := true, laidKinds := [.data, .data, .data, .sentinel, .sentinel, .data], laidTests := true, laidLooks := .later }
def JournalNilCardSaid : Prop := Claim7.holds Tryz.pinned (.plain (OpenSpec.ofChange journalNilSpec)) journalNilCard

/-- THE SECOND FORM's CARD OF 'armillarylaw06.JournalAll'. -/
def journalAllUptoCard : Claim7 := { stood := { row := journalAllUptoRow, standIns := [], harness := (true, "0bb3753f45006ae1f9c53a816a077b2a7b0d04d98605ffcc8988551a9140f822"), looks := true }, kinds := [], alts := [], laidByText := true, laidKinds := [.data, .data, .data, .sentinel, .sentinel, .data], laidTests := true, laidLooks := .later }
def JournalAllUptoCardSaid : Prop := Claim7.holds Tryz.pinned (.plain (OpenSpec.upto journalAllSpec)) journalAllUptoCard

/-- THE SECOND FORM's CARD OF 'armillarylaw06.JournalMany'. -/
def journalManyUptoCard : Claim7 := { stood := { row := journalManyUptoRow, standIns := [], harness := (true, "0bb3753f45006ae1f9c53a816a077b2a7b0d04d98605ffcc8988551a9140f822"), looks := true }, kinds := [], alts := [], laidByText := true, laidKinds := [.data, .data, .data, .sentinel, .sentinel, .data], laidTests := true, laidLooks := .later }
def JournalManyUptoCardSaid : Prop := Claim7.holds Tryz.pinned (.plain (OpenSpec.upto journalManySpec)) journalManyUptoCard

/-- THE SECOND FORM's CARD OF 'armillarylaw06.JournalForms'. -/
def journalFormsUptoCard : Claim7 := { stood := { row := journalFormsUptoRow, standIns := [], harness := (true, "0bb3753f45006ae1f9c53a816a077b2a7b0d04d98605ffcc8988551a9140f822"), looks := true }, kinds := [], alts := [], laidByText := true, laidKinds := [.data, .data, .data, .sentinel, .sentinel, .data], laidTests := true, laidLooks := .later }
def JournalFormsUptoCardSaid : Prop := Claim7.holds Tryz.pinned (.plain (OpenSpec.upto journalFormsSpec)) journalFormsUptoCard

/-- THE SECOND FORM's CARD OF 'armillarylaw06.JournalCrashes'. -/
def journalCrashesUptoCard : Claim7 := { stood := { row := journalCrashesUptoRow, standIns := [], harness := (true, "0bb3753f45006ae1f9c53a816a077b2a7b0d04d98605ffcc8988551a9140f822"), looks := true }, kinds := [], alts := [], laidByText := true, laidKinds := [.data, .data, .data, .sentinel, .sentinel, .data], laidTests := true, laidLooks := .later }
def JournalCrashesUptoCardSaid : Prop := Claim7.holds Tryz.pinned (.plain (OpenSpec.upto journalCrashesSpec)) journalCrashesUptoCard

/-- THE SECOND FORM's CARD OF 'armillarylaw06.JournalSaves'. -/
def journalSavesUptoCard : Claim7 := { stood := { row := journalSavesUptoRow, standIns := [], harness := (true, "0bb3753f45006ae1f9c53a816a077b2a7b0d04d98605ffcc8988551a9140f822"), looks := true }, kinds := [], alts := [], laidByText := true, laidKinds := [.data, .data, .data, .sentinel, .sentinel, .data], laidTests := true, laidLooks := .later }
def JournalSavesUptoCardSaid : Prop := Claim7.holds Tryz.pinned (.plain (OpenSpec.upto journalSavesSpec)) journalSavesUptoCard

/-- THE SECOND FORM's CARD OF 'armillarylaw06.JournalNil'. -/
def journalNilUptoCard : Claim7 := { stood := { row := journalNilUptoRow, standIns := [], harness := (true, "0bb3753f45006ae1f9c53a816a077b2a7b0d04d98605ffcc8988551a9140f822"), looks := true }, kinds := [], alts := [], laidByText := true, laidKinds := [.data, .data, .data, .sentinel, .sentinel, .data], laidTests := true, laidLooks := .later }
def JournalNilUptoCardSaid : Prop := Claim7.holds Tryz.pinned (.plain (OpenSpec.upto journalNilSpec)) journalNilUptoCard
end Rows
end Go.Proofs.YtkleenllkjodoaaGreatDoor
