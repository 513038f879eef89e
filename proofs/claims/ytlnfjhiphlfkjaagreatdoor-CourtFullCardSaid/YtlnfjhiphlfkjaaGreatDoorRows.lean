/-
  NARROWER THAN 'FOR EVERY INPUT', by the rows' own cells (each row's printed sentence says how): CourtFull: laid · CourtNil: laid.
  DERIVED. THE GIVEN ROWS OF THIS SEAT. 2 by the template 'for every input the law returns true; each argument reads behind the call as it read before'; 0 by the template 'total and deterministic' (their statements: YtlnfjhiphlfkjaaGreatDoorTotals.lean).
  GIVEN WITH THE SEED: the statements are not yours to turn. If you find one false, say at which input.
  Laid BY PROGRAM, IN A SANDBOX (cutbox-rows.mjs): the forced cells as the released guide's own fill.sh prints them over the translation d2b147bec2968fc2… (all of the seat's roots in one cut). By AI agents, Wed Nov 11 2026. No macro, syntax, notation, axiom, sorry.
-/
import Derived.Test.YtlnfjhiphlfkjaaGreatDoorChecked
import GoSem.Claim
import GoSem.ClaimJoined
import GoSem.ClaimMapViews
import Derived.JoinedTies
import Derived.KernelRfl
namespace Go.Proofs.YtlnfjhiphlfkjaaGreatDoor
/- THE CELL 'sum', in the pinned program and in every row, IS THE sha256 OF THE DUMP (.gsa) THAT YtlnfjhiphlfkjaaGreatDoorProg.lean LOADS. Nothing in Lean hashes anything: it is a label: what it is worth is what the hold of that sum in a sandbox is worth. -/
noncomputable def Tryz.pinned : Pinned := { name := "ytlnfjhiphlfkjaagreatdoor", sum := "d2b147bec2968fc232496c2054286d33097ac6c9ab50bf0fec4722fd69578251", checked := Tryz.checked }
namespace Rows
def none {H : Type} : Left H := { results := [], args := [] }

/- WHAT THE LISTED PACKAGE-LEVEL VARIABLES READ AS WHEN THE CALL BEGINS. Each datum BY PROGRAM (the guide's laid-datum.mjs) off the statement by which the dump's own 'gosem.cut.vars' lays the variable. In a bare row this is a premise. The card (YtlnfjhiphlfkjaaGreatDoorCards.lean) ties it to the program's text. -/
def laid_math_bits_deBruijn32tab {H : Type} : DataW H := .agg [.lit (.int .u8 0), .lit (.int .u8 1), .lit (.int .u8 28), .lit (.int .u8 2), .lit (.int .u8 29), .lit (.int .u8 14), .lit (.int .u8 24), .lit (.int .u8 3), .lit (.int .u8 30), .lit (.int .u8 22), .lit (.int .u8 20), .lit (.int .u8 15), .lit (.int .u8 25), .lit (.int .u8 17), .lit (.int .u8 4), .lit (.int .u8 8), .lit (.int .u8 31), .lit (.int .u8 27), .lit (.int .u8 13), .lit (.int .u8 23), .lit (.int .u8 21), .lit (.int .u8 19), .lit (.int .u8 16), .lit (.int .u8 7), .lit (.int .u8 26), .lit (.int .u8 12), .lit (.int .u8 18), .lit (.int .u8 6), .lit (.int .u8 11), .lit (.int .u8 5), .lit (.int .u8 10), .lit (.int .u8 9)]
def laid_math_bits_deBruijn64tab {H : Type} : DataW H := .agg [.lit (.int .u8 0), .lit (.int .u8 1), .lit (.int .u8 56), .lit (.int .u8 2), .lit (.int .u8 57), .lit (.int .u8 49), .lit (.int .u8 28), .lit (.int .u8 3), .lit (.int .u8 61), .lit (.int .u8 58), .lit (.int .u8 42), .lit (.int .u8 50), .lit (.int .u8 38), .lit (.int .u8 29), .lit (.int .u8 17), .lit (.int .u8 4), .lit (.int .u8 62), .lit (.int .u8 47), .lit (.int .u8 59), .lit (.int .u8 36), .lit (.int .u8 45), .lit (.int .u8 43), .lit (.int .u8 51), .lit (.int .u8 22), .lit (.int .u8 53), .lit (.int .u8 39), .lit (.int .u8 33), .lit (.int .u8 30), .lit (.int .u8 24), .lit (.int .u8 18), .lit (.int .u8 12), .lit (.int .u8 5), .lit (.int .u8 63), .lit (.int .u8 55), .lit (.int .u8 48), .lit (.int .u8 27), .lit (.int .u8 60), .lit (.int .u8 41), .lit (.int .u8 37), .lit (.int .u8 16), .lit (.int .u8 46), .lit (.int .u8 35), .lit (.int .u8 44), .lit (.int .u8 21), .lit (.int .u8 52), .lit (.int .u8 32), .lit (.int .u8 23), .lit (.int .u8 11), .lit (.int .u8 54), .lit (.int .u8 26), .lit (.int .u8 40), .lit (.int .u8 15), .lit (.int .u8 34), .lit (.int .u8 20), .lit (.int .u8 31), .lit (.int .u8 10), .lit (.int .u8 25), .lit (.int .u8 14), .lit (.int .u8 19), .lit (.int .u8 9), .lit (.int .u8 13), .lit (.int .u8 8), .lit (.int .u8 7), .lit (.int .u8 6)]
def laid_internal_strconv_uint64pow10 {H : Type} : DataW H := .agg [.lit (.int .u64 1), .lit (.int .u64 10), .lit (.int .u64 100), .lit (.int .u64 1000), .lit (.int .u64 10000), .lit (.int .u64 100000), .lit (.int .u64 1000000), .lit (.int .u64 10000000), .lit (.int .u64 100000000), .lit (.int .u64 1000000000), .lit (.int .u64 10000000000), .lit (.int .u64 100000000000), .lit (.int .u64 1000000000000), .lit (.int .u64 10000000000000), .lit (.int .u64 100000000000000), .lit (.int .u64 1000000000000000), .lit (.int .u64 10000000000000000), .lit (.int .u64 100000000000000000), .lit (.int .u64 1000000000000000000), .lit (.int .u64 10000000000000000000)]
def laid_strconv_ErrRange {H : Type} : DataW H := .iface "*errors.errorString" (.ptr (.agg [.lit (.string [118, 97, 108, 117, 101, 32, 111, 117, 116, 32, 111, 102, 32, 114, 97, 110, 103, 101])]))
def laid_strconv_ErrSyntax {H : Type} : DataW H := .iface "*errors.errorString" (.ptr (.agg [.lit (.string [105, 110, 118, 97, 108, 105, 100, 32, 115, 121, 110, 116, 97, 120])]))
def laid_armillary_seal_nibble {H : Type} : DataW H := .agg [.lit (.int .u32 0), .lit (.int .u32 498536548), .lit (.int .u32 997073096), .lit (.int .u32 651767980), .lit (.int .u32 1994146192), .lit (.int .u32 1802195444), .lit (.int .u32 1303535960), .lit (.int .u32 1342533948), .lit (.int .u32 3988292384), .lit (.int .u32 4027552580), .lit (.int .u32 3604390888), .lit (.int .u32 3412177804), .lit (.int .u32 2607071920), .lit (.int .u32 2262029012), .lit (.int .u32 2685067896), .lit (.int .u32 3183342108)]
def laid_armillary_note_sorts {H : Type} : DataW H := .agg [.agg [.lit (.string []), .lit (.int .i64 0)], .agg [.lit (.string [65, 115, 107]), .lit (.int .i64 4098)], .agg [.lit (.string [82, 101, 112, 108, 121]), .lit (.int .i64 518)], .agg [.lit (.string [80, 114, 101, 112, 97, 114, 101]), .lit (.int .i64 6153)], .agg [.lit (.string [86, 111, 116, 101]), .lit (.int .i64 513)], .agg [.lit (.string [68, 101, 99, 105, 100, 101]), .lit (.int .i64 517)], .agg [.lit (.string [65, 99, 107]), .lit (.int .i64 1)], .agg [.lit (.string [80, 114, 111, 98, 101]), .lit (.int .i64 1)], .agg [.lit (.string [81, 117, 101, 114, 121]), .lit (.int .i64 8672)], .agg [.lit (.string [76, 111, 111, 107]), .lit (.int .i64 8692)], .agg [.lit (.string [83, 101, 101, 110]), .lit (.int .i64 16928)], .agg [.lit (.string [82, 101, 115, 117, 108, 116]), .lit (.int .i64 16932)], .agg [.lit (.string [80, 114, 101, 112, 97, 114, 101, 100]), .lit (.int .i64 6153)], .agg [.lit (.string [67, 111, 109, 109, 105, 116, 116, 101, 100]), .lit (.int .i64 5)], .agg [.lit (.string [65, 98, 111, 114, 116, 101, 100]), .lit (.int .i64 1)], .agg [.lit (.string [83, 119, 101, 112, 116]), .lit (.int .i64 16)], .agg [.lit (.string [69, 112, 111, 99, 104]), .lit (.int .i64 16)], .agg [.lit (.string [67, 111, 109, 109, 105, 116]), .lit (.int .i64 2055)], .agg [.lit (.string [69, 110, 100]), .lit (.int .i64 1)], .agg [.lit (.string [66, 101, 103, 105, 110]), .lit (.int .i64 7179)], .agg [.lit (.string [89, 101, 115]), .lit (.int .i64 1025)], .agg [.lit (.string [65, 99, 107, 101, 100]), .lit (.int .i64 1025)], .agg [.lit (.string [71, 111, 110, 101]), .lit (.int .i64 1)]]

/-- 'armillarylaw18.CourtFull': WHATEVER THE INPUT: true; the input reads as it did. -/
def courtFullSpec : ChangeSpec := { name := "courtFull", fn := fun _ => fun
  | [d1, d2] => { results := [.lit (.bool true)], args := [d1, d2] }
  | _ => none }
def courtFullRow : OpenClaim := { program := "ytlnfjhiphlfkjaagreatdoor", sum := "d2b147bec2968fc232496c2054286d33097ac6c9ab50bf0fec4722fd69578251", func := "armillary/armillarylaw18.CourtFull", spec := "courtFull", inPlace := ["internal/bytealg.MakeNoZero", "slices.overlaps[int]", "slices.overlaps[armillary/api.Hit]"], unfollowed := true, recurses := true, named := ["armillary/seal.nibble", "internal/strconv.uint64pow10", "math/bits.deBruijn32tab", "math/bits.deBruijn64tab", "strconv.ErrSyntax", "strconv.ErrRange", "armillary/note.sorts"], apart := false, laid := [("math/bits.deBruijn32tab", laid_math_bits_deBruijn32tab), ("math/bits.deBruijn64tab", laid_math_bits_deBruijn64tab), ("internal/strconv.uint64pow10", laid_internal_strconv_uint64pow10), ("strconv.ErrRange", laid_strconv_ErrRange), ("strconv.ErrSyntax", laid_strconv_ErrSyntax), ("armillary/seal.nibble", laid_armillary_seal_nibble), ("armillary/note.sorts", laid_armillary_note_sorts)] }
def CourtFullSaid : Prop := courtFullRow.holds Tryz.pinned (OpenSpec.ofChange courtFullSpec)

/-- ITS FALSE NEIGHBOUR: 'it returns false'. Refute it at one input. -/
def courtFullWrong : ChangeSpec := { name := "courtFull", fn := fun _ => fun
  | [d1, d2] => { results := [.lit (.bool false)], args := [d1, d2] }
  | _ => none }
def CourtFullWrongFalsely : Prop := courtFullRow.holds Tryz.pinned (OpenSpec.ofChange courtFullWrong)

/-- 'armillarylaw18.CourtNil': WHATEVER THE INPUT: true; the input reads as it did. -/
def courtNilSpec : ChangeSpec := { name := "courtNil", fn := fun _ => fun
  | [d1, d2, d3] => { results := [.lit (.bool true)], args := [d1, d2, d3] }
  | _ => none }
def courtNilRow : OpenClaim := { program := "ytlnfjhiphlfkjaagreatdoor", sum := "d2b147bec2968fc232496c2054286d33097ac6c9ab50bf0fec4722fd69578251", func := "armillary/armillarylaw18.CourtNil", spec := "courtNil", inPlace := ["internal/bytealg.MakeNoZero", "slices.overlaps[int]", "slices.overlaps[armillary/api.Hit]"], unfollowed := true, recurses := true, named := ["armillary/seal.nibble", "internal/strconv.uint64pow10", "math/bits.deBruijn32tab", "math/bits.deBruijn64tab", "strconv.ErrSyntax", "strconv.ErrRange", "armillary/note.sorts"], apart := false, laid := [("math/bits.deBruijn32tab", laid_math_bits_deBruijn32tab), ("math/bits.deBruijn64tab", laid_math_bits_deBruijn64tab), ("internal/strconv.uint64pow10", laid_internal_strconv_uint64pow10), ("strconv.ErrRange", laid_strconv_ErrRange), ("strconv.ErrSyntax", laid_strconv_ErrSyntax), ("armillary/seal.nibble", laid_armillary_seal_nibble), ("armillary/note.sorts", laid_armillary_note_sorts)] }
def CourtNilSaid : Prop := courtNilRow.holds Tryz.pinned (OpenSpec.ofChange courtNilSpec)

/-- ITS FALSE NEIGHBOUR: 'it returns false'. Refute it at one input. -/
def courtNilWrong : ChangeSpec := { name := "courtNil", fn := fun _ => fun
  | [d1, d2, d3] => { results := [.lit (.bool false)], args := [d1, d2, d3] }
  | _ => none }
def CourtNilWrongFalsely : Prop := courtNilRow.holds Tryz.pinned (OpenSpec.ofChange courtNilWrong)

/- THE SECOND FORM. 'bulk': how many values and letters a reading holds, each counted each time it is reached (what is shared counts as often as it is met; a slice's spare places count too). A statement '..UptoSaid' is the law's where the arguments, and the package variables that the reading takes, are together of bulk at most 1048576: NARROWER than '..Said'. Prove '..Said' where nothing that the law and all that it calls make is longer than what came in: it says more and counts as full. Else prove '..UptoSaid'. A law counts once. -/
mutual
def uptoBulk {H : Type} : DataW H → Nat
  | .lit (.string bytes) => bytes.length + 1
  | .lit _ => 1
  | .nil => 1
  | .ptr d => uptoBulk d + 1
  | .slice elems spare => uptoBulkAll elems + uptoBulkAll spare + 1
  | .agg parts => uptoBulkAll parts + 1
  | .iface _ d => uptoBulk d + 1
  | .map entries => uptoBulkEntries entries + 1
  | .held _ => 1
def uptoBulkAll {H : Type} : List (DataW H) → Nat
  | [] => 0
  | d :: r => uptoBulk d + uptoBulkAll r
def uptoBulkEntries {H : Type} : List (Lit × DataW H) → Nat
  | [] => 0
  | x :: r => uptoBulkEntry x + uptoBulkEntries r
def uptoBulkEntry {H : Type} : Lit × DataW H → Nat
  | (.string bytes, d) => bytes.length + uptoBulk d + 1
  | (_, d) => uptoBulk d + 1
 end
def uptoSmall : (H : Type) → List (DataW H) → Bool := fun _ ds => decide (uptoBulkAll ds ≤ 1048576)
def OpenSpec.upto (s : _root_.Go.ChangeSpec) : _root_.Go.OpenSpec := { _root_.Go.OpenSpec.ofChange s with cond := some uptoSmall }

/-- 'armillarylaw18.CourtFull', WHERE WHAT IT READS IS OF BULK AT MOST 1048576: true; the input reads as it did. -/
def courtFullUptoRow : OpenClaim := { program := "ytlnfjhiphlfkjaagreatdoor", sum := "d2b147bec2968fc232496c2054286d33097ac6c9ab50bf0fec4722fd69578251", func := "armillary/armillarylaw18.CourtFull", spec := "courtFull", inPlace := ["internal/bytealg.MakeNoZero", "slices.overlaps[int]", "slices.overlaps[armillary/api.Hit]"], unfollowed := true, recurses := true, named := ["armillary/seal.nibble", "internal/strconv.uint64pow10", "math/bits.deBruijn32tab", "math/bits.deBruijn64tab", "strconv.ErrSyntax", "strconv.ErrRange", "armillary/note.sorts"], apart := false, laid := [("math/bits.deBruijn32tab", laid_math_bits_deBruijn32tab), ("math/bits.deBruijn64tab", laid_math_bits_deBruijn64tab), ("internal/strconv.uint64pow10", laid_internal_strconv_uint64pow10), ("strconv.ErrRange", laid_strconv_ErrRange), ("strconv.ErrSyntax", laid_strconv_ErrSyntax), ("armillary/seal.nibble", laid_armillary_seal_nibble), ("armillary/note.sorts", laid_armillary_note_sorts)], narrowed := true }
def CourtFullUptoSaid : Prop := courtFullUptoRow.holds Tryz.pinned (OpenSpec.upto courtFullSpec)

/-- 'armillarylaw18.CourtNil', WHERE WHAT IT READS IS OF BULK AT MOST 1048576: true; the input reads as it did. -/
def courtNilUptoRow : OpenClaim := { program := "ytlnfjhiphlfkjaagreatdoor", sum := "d2b147bec2968fc232496c2054286d33097ac6c9ab50bf0fec4722fd69578251", func := "armillary/armillarylaw18.CourtNil", spec := "courtNil", inPlace := ["internal/bytealg.MakeNoZero", "slices.overlaps[int]", "slices.overlaps[armillary/api.Hit]"], unfollowed := true, recurses := true, named := ["armillary/seal.nibble", "internal/strconv.uint64pow10", "math/bits.deBruijn32tab", "math/bits.deBruijn64tab", "strconv.ErrSyntax", "strconv.ErrRange", "armillary/note.sorts"], apart := false, laid := [("math/bits.deBruijn32tab", laid_math_bits_deBruijn32tab), ("math/bits.deBruijn64tab", laid_math_bits_deBruijn64tab), ("internal/strconv.uint64pow10", laid_internal_strconv_uint64pow10), ("strconv.ErrRange", laid_strconv_ErrRange), ("strconv.ErrSyntax", laid_strconv_ErrSyntax), ("armillary/seal.nibble", laid_armillary_seal_nibble), ("armillary/note.sorts", laid_armillary_note_sorts)], narrowed := true }
def CourtNilUptoSaid : Prop := courtNilUptoRow.holds Tryz.pinned (OpenSpec.upto courtNilSpec)

end Rows
end Go.Proofs.YtlnfjhiphlfkjaaGreatDoor
