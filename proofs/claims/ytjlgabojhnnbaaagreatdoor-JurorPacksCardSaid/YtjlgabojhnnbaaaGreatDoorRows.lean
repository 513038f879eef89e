/-
  NARROWER THAN 'FOR EVERY INPUT', by the rows' own cells (each row's printed sentence says how): JurorPacks: laid.
  DERIVED. THE GIVEN ROWS OF THIS SEAT. 1 by the template 'for every input the law returns true; each argument reads behind the call as it read before'; 0 by the template 'total and deterministic' (their statements: YtjlgabojhnnbaaaGreatDoorTotals.lean).
  GIVEN WITH THE SEED: the statements are not yours to turn. If you find one false, say at which input.
  Laid BY PROGRAM, IN A SANDBOX (cutbox-rows.mjs): the forced cells as the released guide's own fill.sh prints them over the translation 7c711f7acd0319da… (all of the seat's roots in one cut). By AI agents, Wed Nov 11 2026. No macro, syntax, notation, axiom, sorry.
-/
import Derived.Test.YtjlgabojhnnbaaaGreatDoorChecked
import GoSem.Claim
import GoSem.ClaimJoined
import GoSem.ClaimMapViews
import Derived.JoinedTies
import Derived.KernelRfl
namespace Go.Proofs.YtjlgabojhnnbaaaGreatDoor
/- THE CELL 'sum', in the pinned program and in every row, IS THE sha256 OF THE DUMP (.gsa) THAT YtjlgabojhnnbaaaGreatDoorProg.lean LOADS. Nothing in Lean hashes anything: it is a label: what it is worth is what the hold of that sum in a sandbox is worth. -/
noncomputable def Tryz.pinned : Pinned := { name := "ytjlgabojhnnbaaagreatdoor", sum := "7c711f7acd0319daec8da4ad1e0baa7f81a0b0c85caefe8b07dc72e182f55a8b", checked := Tryz.checked }
namespace Rows
def none {H : Type} : Left H := { results := [], args := [] }

/- WHAT THE LISTED PACKAGE-LEVEL VARIABLES READ AS WHEN THE CALL BEGINS. Each datum BY PROGRAM (the guide's laid-datum.mjs) off the statement by which the dump's own 'gosem.cut.vars' lays the variable. In a bare row this is a premise. The card (YtjlgabojhnnbaaaGreatDoorCards.lean) ties it to the program's text. -/
def laid_armillary_note_sorts {H : Type} : DataW H := .agg [.agg [.lit (.string []), .lit (.int .i64 0)], .agg [.lit (.string [65, 115, 107]), .lit (.int .i64 4098)], .agg [.lit (.string [82, 101, 112, 108, 121]), .lit (.int .i64 518)], .agg [.lit (.string [80, 114, 101, 112, 97, 114, 101]), .lit (.int .i64 6153)], .agg [.lit (.string [86, 111, 116, 101]), .lit (.int .i64 513)], .agg [.lit (.string [68, 101, 99, 105, 100, 101]), .lit (.int .i64 517)], .agg [.lit (.string [65, 99, 107]), .lit (.int .i64 1)], .agg [.lit (.string [80, 114, 111, 98, 101]), .lit (.int .i64 1)], .agg [.lit (.string [81, 117, 101, 114, 121]), .lit (.int .i64 8672)], .agg [.lit (.string [76, 111, 111, 107]), .lit (.int .i64 8692)], .agg [.lit (.string [83, 101, 101, 110]), .lit (.int .i64 16928)], .agg [.lit (.string [82, 101, 115, 117, 108, 116]), .lit (.int .i64 16932)], .agg [.lit (.string [80, 114, 101, 112, 97, 114, 101, 100]), .lit (.int .i64 6153)], .agg [.lit (.string [67, 111, 109, 109, 105, 116, 116, 101, 100]), .lit (.int .i64 5)], .agg [.lit (.string [65, 98, 111, 114, 116, 101, 100]), .lit (.int .i64 1)], .agg [.lit (.string [83, 119, 101, 112, 116]), .lit (.int .i64 16)], .agg [.lit (.string [69, 112, 111, 99, 104]), .lit (.int .i64 16)], .agg [.lit (.string [67, 111, 109, 109, 105, 116]), .lit (.int .i64 2055)], .agg [.lit (.string [69, 110, 100]), .lit (.int .i64 1)], .agg [.lit (.string [66, 101, 103, 105, 110]), .lit (.int .i64 7179)], .agg [.lit (.string [89, 101, 115]), .lit (.int .i64 1025)], .agg [.lit (.string [65, 99, 107, 101, 100]), .lit (.int .i64 1025)], .agg [.lit (.string [71, 111, 110, 101]), .lit (.int .i64 1)]]

/-- 'armillarylaw14.JurorPacks': WHATEVER THE INPUT: true; the input reads as it did. -/
def jurorPacksSpec : ChangeSpec := { name := "jurorPacks", fn := fun _ => fun
  | [d1, d2] => { results := [.lit (.bool true)], args := [d1, d2] }
  | _ => none }
def jurorPacksRow : OpenClaim := { program := "ytjlgabojhnnbaaagreatdoor", sum := "7c711f7acd0319daec8da4ad1e0baa7f81a0b0c85caefe8b07dc72e182f55a8b", func := "armillary/armillarylaw14.JurorPacks", spec := "jurorPacks", unfollowed := true, recurses := true, named := ["armillary/note.sorts"], apart := false, laid := [("armillary/note.sorts", laid_armillary_note_sorts)] }
def JurorPacksSaid : Prop := jurorPacksRow.holds Tryz.pinned (OpenSpec.ofChange jurorPacksSpec)

/-- ITS FALSE NEIGHBOUR: 'it returns false'. Refute it at one input. -/
def jurorPacksWrong : ChangeSpec := { name := "jurorPacks", fn := fun _ => fun
  | [d1, d2] => { results := [.lit (.bool false)], args := [d1, d2] }
  | _ => none }
def JurorPacksWrongFalsely : Prop := jurorPacksRow.holds Tryz.pinned (OpenSpec.ofChange jurorPacksWrong)

/- THE SECOND FORM. 'bulk': how many values and letters a reading holds, each counted each time it is reached (what is shared counts as often as it is met; a slice's spare places count too). A statement '..UptoSaid' is the law's where the arguments, and the package variables that the reading takes, are together of bulk at most 1048576: NARROWER than '..Said'. Prove '..Said' where nothing that the law and all that it calls make is longer than what came in: it says more and counts as full. Else prove '..UptoSaid'. A law counts once. -/
mutual
def uptoBulk {H : Type} : DataW H → Nat
  | .lit (.string bytes) => bytes.length + 1
  | .lit _ => 1
  | .nil => 1
  | .ptr d => uptoBulk d + 1
  | .slice elems spare => uptoBulkAll elems + uptoBulkAll spare + 1
  | .agg parts => uptoBulkAll parts + 1
  | .iface _ d => uptoBulk d + 1
  | .map entries => uptoBulkEntries entries + 1
  | .held _ => 1
def uptoBulkAll {H : Type} : List (DataW H) → Nat
  | [] => 0
  | d :: r => uptoBulk d + uptoBulkAll r
def uptoBulkEntries {H : Type} : List (Lit × DataW H) → Nat
  | [] => 0
  | x :: r => uptoBulkEntry x + uptoBulkEntries r
def uptoBulkEntry {H : Type} : Lit × DataW H → Nat
  | (.string bytes, d) => bytes.length + uptoBulk d + 1
  | (_, d) => uptoBulk d + 1
 end
def uptoSmall : (H : Type) → List (DataW H) → Bool := fun _ ds => decide (uptoBulkAll ds ≤ 1048576)
def OpenSpec.upto (s : _root_.Go.ChangeSpec) : _root_.Go.OpenSpec := { _root_.Go.OpenSpec.ofChange s with cond := some uptoSmall }

/-- 'armillarylaw14.JurorPacks', WHERE WHAT IT READS IS OF BULK AT MOST 1048576: true; the input reads as it did. -/
def jurorPacksUptoRow : OpenClaim := { program := "ytjlgabojhnnbaaagreatdoor", sum := "7c711f7acd0319daec8da4ad1e0baa7f81a0b0c85caefe8b07dc72e182f55a8b", func := "armillary/armillarylaw14.JurorPacks", spec := "jurorPacks", unfollowed := true, recurses := true, named := ["armillary/note.sorts"], apart := false, laid := [("armillary/note.sorts", laid_armillary_note_sorts)], narrowed := true }
def JurorPacksUptoSaid : Prop := jurorPacksUptoRow.holds Tryz.pinned (OpenSpec.upto jurorPacksSpec)

end Rows
end Go.Proofs.YtjlgabojhnnbaaaGreatDoor
