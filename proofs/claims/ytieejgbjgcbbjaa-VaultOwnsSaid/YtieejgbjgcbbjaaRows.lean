/-
  No cell of these rows narrows 'for every input' (looked for: loops, veiled, ifaces, maps, wideKeys, modest, calm, conditions, laid).
  DERIVED. THE GIVEN ROWS OF THIS SEAT. 6 by the template 'for every input the law returns true; each argument reads behind the call as it read before'; 0 by the template 'total and deterministic' (their statements: YtieejgbjgcbbjaaTotals.lean).
  GIVEN WITH THE SEED: the statements are not yours to turn. If you find one false, say at which input.
  Laid BY PROGRAM, IN A SANDBOX (cutbox-rows.mjs): the forced cells as the released guide's own fill.sh prints them over the translation b9cef3da2eb29e2b… (all of the seat's roots in one cut). By AI agents, Wed Nov 11 2026. No macro, syntax, notation, axiom, sorry.
-/
import Derived.Test.YtieejgbjgcbbjaaChecked
import GoSem.Claim
import GoSem.ClaimJoined
import GoSem.ClaimMapViews
import Derived.JoinedTies
import Derived.KernelRfl
namespace Go.Proofs.Ytieejgbjgcbbjaa
/- THE CELL 'sum', in the pinned program and in every row, IS THE sha256 OF THE DUMP (.gsa) THAT YtieejgbjgcbbjaaProg.lean LOADS. Nothing in Lean hashes anything: it is a label: what it is worth is what the hold of that sum in a sandbox is worth. -/
noncomputable def Try.pinned : Pinned := { name := "ytieejgbjgcbbjaa", sum := "b9cef3da2eb29e2b6ce72b607287f9cbc370696981bde08c2a90800bda164e77", checked := Try.checked }
namespace Rows
def none {H : Type} : Left H := { results := [], args := [] }

/-- 'armillarylaw08.VaultHolds': WHATEVER THE INPUT: true; the input reads as it did. -/
def vaultHoldsSpec : ChangeSpec := { name := "vaultHolds", fn := fun _ => fun
  | [d1, d2] => { results := [.lit (.bool true)], args := [d1, d2] }
  | _ => none }
def vaultHoldsRow : OpenClaim := { program := "ytieejgbjgcbbjaa", sum := "b9cef3da2eb29e2b6ce72b607287f9cbc370696981bde08c2a90800bda164e77", func := "armillary/armillarylaw08.VaultHolds", spec := "vaultHolds", unfollowed := true, recurses := true, apart := false }
def VaultHoldsSaid : Prop := vaultHoldsRow.holds Try.pinned (OpenSpec.ofChange vaultHoldsSpec)

/-- ITS FALSE NEIGHBOUR: 'it returns false'. Refute it at one input. -/
def vaultHoldsWrong : ChangeSpec := { name := "vaultHolds", fn := fun _ => fun
  | [d1, d2] => { results := [.lit (.bool false)], args := [d1, d2] }
  | _ => none }
def VaultHoldsWrongFalsely : Prop := vaultHoldsRow.holds Try.pinned (OpenSpec.ofChange vaultHoldsWrong)

/-- 'armillarylaw08.VaultApplies': WHATEVER THE INPUT: true; the input reads as it did. -/
def vaultAppliesSpec : ChangeSpec := { name := "vaultApplies", fn := fun _ => fun
  | [d1, d2, d3] => { results := [.lit (.bool true)], args := [d1, d2, d3] }
  | _ => none }
def vaultAppliesRow : OpenClaim := { program := "ytieejgbjgcbbjaa", sum := "b9cef3da2eb29e2b6ce72b607287f9cbc370696981bde08c2a90800bda164e77", func := "armillary/armillarylaw08.VaultApplies", spec := "vaultApplies", unfollowed := true, recurses := true, apart := false }
def VaultAppliesSaid : Prop := vaultAppliesRow.holds Try.pinned (OpenSpec.ofChange vaultAppliesSpec)

/-- ITS FALSE NEIGHBOUR: 'it returns false'. Refute it at one input. -/
def vaultAppliesWrong : ChangeSpec := { name := "vaultApplies", fn := fun _ => fun
  | [d1, d2, d3] => { results := [.lit (.bool false)], args := [d1, d2, d3] }
  | _ => none }
def VaultAppliesWrongFalsely : Prop := vaultAppliesRow.holds Try.pinned (OpenSpec.ofChange vaultAppliesWrong)

/-- 'armillarylaw08.VaultStays': WHATEVER THE INPUT: true; the input reads as it did. -/
def vaultStaysSpec : ChangeSpec := { name := "vaultStays", fn := fun _ => fun
  | [d1, d2, d3, d4] => { results := [.lit (.bool true)], args := [d1, d2, d3, d4] }
  | _ => none }
def vaultStaysRow : OpenClaim := { program := "ytieejgbjgcbbjaa", sum := "b9cef3da2eb29e2b6ce72b607287f9cbc370696981bde08c2a90800bda164e77", func := "armillary/armillarylaw08.VaultStays", spec := "vaultStays", unfollowed := true, recurses := true, apart := false }
def VaultStaysSaid : Prop := vaultStaysRow.holds Try.pinned (OpenSpec.ofChange vaultStaysSpec)

/-- ITS FALSE NEIGHBOUR: 'it returns false'. Refute it at one input. -/
def vaultStaysWrong : ChangeSpec := { name := "vaultStays", fn := fun _ => fun
  | [d1, d2, d3, d4] => { results := [.lit (.bool false)], args := [d1, d2, d3, d4] }
  | _ => none }
def VaultStaysWrongFalsely : Prop := vaultStaysRow.holds Try.pinned (OpenSpec.ofChange vaultStaysWrong)

/-- 'armillarylaw08.VaultSweeps': WHATEVER THE INPUT: true; the input reads as it did. -/
def vaultSweepsSpec : ChangeSpec := { name := "vaultSweeps", fn := fun _ => fun
  | [d1, d2, d3] => { results := [.lit (.bool true)], args := [d1, d2, d3] }
  | _ => none }
def vaultSweepsRow : OpenClaim := { program := "ytieejgbjgcbbjaa", sum := "b9cef3da2eb29e2b6ce72b607287f9cbc370696981bde08c2a90800bda164e77", func := "armillary/armillarylaw08.VaultSweeps", spec := "vaultSweeps", unfollowed := true, recurses := true, apart := false }
def VaultSweepsSaid : Prop := vaultSweepsRow.holds Try.pinned (OpenSpec.ofChange vaultSweepsSpec)

/-- ITS FALSE NEIGHBOUR: 'it returns false'. Refute it at one input. -/
def vaultSweepsWrong : ChangeSpec := { name := "vaultSweeps", fn := fun _ => fun
  | [d1, d2, d3] => { results := [.lit (.bool false)], args := [d1, d2, d3] }
  | _ => none }
def VaultSweepsWrongFalsely : Prop := vaultSweepsRow.holds Try.pinned (OpenSpec.ofChange vaultSweepsWrong)

/-- 'armillarylaw08.VaultPlays': WHATEVER THE INPUT: true; the input reads as it did. -/
def vaultPlaysSpec : ChangeSpec := { name := "vaultPlays", fn := fun _ => fun
  | [d1, d2, d3] => { results := [.lit (.bool true)], args := [d1, d2, d3] }
  | _ => none }
def vaultPlaysRow : OpenClaim := { program := "ytieejgbjgcbbjaa", sum := "b9cef3da2eb29e2b6ce72b607287f9cbc370696981bde08c2a90800bda164e77", func := "armillary/armillarylaw08.VaultPlays", spec := "vaultPlays", unfollowed := true, recurses := true, apart := false }
def VaultPlaysSaid : Prop := vaultPlaysRow.holds Try.pinned (OpenSpec.ofChange vaultPlaysSpec)

/-- ITS FALSE NEIGHBOUR: 'it returns false'. Refute it at one input. -/
def vaultPlaysWrong : ChangeSpec := { name := "vaultPlays", fn := fun _ => fun
  | [d1, d2, d3] => { results := [.lit (.bool false)], args := [d1, d2, d3] }
  | _ => none }
def VaultPlaysWrongFalsely : Prop := vaultPlaysRow.holds Try.pinned (OpenSpec.ofChange vaultPlaysWrong)

/-- 'armillarylaw08.VaultOwns': WHATEVER THE INPUT: true; the input reads as it did. -/
def vaultOwnsSpec : ChangeSpec := { name := "vaultOwns", fn := fun _ => fun
  | [d1, d2] => { results := [.lit (.bool true)], args := [d1, d2] }
  | _ => none }
def vaultOwnsRow : OpenClaim := { program := "ytieejgbjgcbbjaa", sum := "b9cef3da2eb29e2b6ce72b607287f9cbc370696981bde08c2a90800bda164e77", func := "armillary/armillarylaw08.VaultOwns", spec := "vaultOwns", unfollowed := true, recurses := true, apart := false }
def VaultOwnsSaid : Prop := vaultOwnsRow.holds Try.pinned (OpenSpec.ofChange vaultOwnsSpec)

/-- ITS FALSE NEIGHBOUR: 'it returns false'. Refute it at one input. -/
def vaultOwnsWrong : ChangeSpec := { name := "vaultOwns", fn := fun _ => fun
  | [d1, d2] => { results := [.lit (.bool false)], args := [d1, d2] }
  | _ => none }
def VaultOwnsWrongFalsely : Prop := vaultOwnsRow.holds Try.pinned (OpenSpec.ofChange vaultOwnsWrong)

/- THE SECOND FORM. 'bulk': how many values and letters a reading holds, each counted each time it is reached (what is shared counts as often as it is met; a slice's spare places count too). A statement '..UptoSaid' is the law's where the arguments, and the package variables that the reading takes, are together of bulk at most 1048576: NARROWER than '..Said'. Prove '..Said' where nothing that the law and all that it calls make is longer than what came in: it says more and counts as full. Else prove '..UptoSaid'. A law counts once. -/
mutual
def uptoBulk {H : Type} : DataW H → Nat
  | .lit (.string bytes) => bytes.length + 1
  | .lit _ => 1
  | .nil => 1
  | .ptr d => uptoBulk d + 1
  | .slice elems spare => uptoBulkAll elems + uptoBulkAll spare + 1
  | .agg parts => uptoBulkAll parts + 1
  | .iface _ d => uptoBulk d + 1
  | .map entries => uptoBulkEntries entries + 1
  | .held _ => 1
def uptoBulkAll {H : Type} : List (DataW H) → Nat
  | [] => 0
  | d :: r => uptoBulk d + uptoBulkAll r
def uptoBulkEntries {H : Type} : List (Lit × DataW H) → Nat
  | [] => 0
  | x :: r => uptoBulkEntry x + uptoBulkEntries r
def uptoBulkEntry {H : Type} : Lit × DataW H → Nat
  | (.string bytes, d) => bytes.length + uptoBulk d + 1
  | (_, d) => uptoBulk d + 1
 end
def uptoSmall : (H : Type) → List (DataW H) → Bool := fun _ ds => decide (uptoBulkAll ds ≤ 1048576)
def OpenSpec.upto (s : _root_.Go.ChangeSpec) : _root_.Go.OpenSpec := { _root_.Go.OpenSpec.ofChange s with cond := some uptoSmall }

/-- 'armillarylaw08.VaultHolds', WHERE WHAT IT READS IS OF BULK AT MOST 1048576: true; the input reads as it did. -/
def vaultHoldsUptoRow : OpenClaim := { program := "ytieejgbjgcbbjaa", sum := "b9cef3da2eb29e2b6ce72b607287f9cbc370696981bde08c2a90800bda164e77", func := "armillary/armillarylaw08.VaultHolds", spec := "vaultHolds", unfollowed := true, recurses := true, apart := false, narrowed := true }
def VaultHoldsUptoSaid : Prop := vaultHoldsUptoRow.holds Try.pinned (OpenSpec.upto vaultHoldsSpec)

/-- 'armillarylaw08.VaultApplies', WHERE WHAT IT READS IS OF BULK AT MOST 1048576: true; the input reads as it did. -/
def vaultAppliesUptoRow : OpenClaim := { program := "ytieejgbjgcbbjaa", sum := "b9cef3da2eb29e2b6ce72b607287f9cbc370696981bde08c2a90800bda164e77", func := "armillary/armillarylaw08.VaultApplies", spec := "vaultApplies", unfollowed := true, recurses := true, apart := false, narrowed := true }
def VaultAppliesUptoSaid : Prop := vaultAppliesUptoRow.holds Try.pinned (OpenSpec.upto vaultAppliesSpec)

/-- 'armillarylaw08.VaultStays', WHERE WHAT IT READS IS OF BULK AT MOST 1048576: true; the input reads as it did. -/
def vaultStaysUptoRow : OpenClaim := { program := "ytieejgbjgcbbjaa", sum := "b9cef3da2eb29e2b6ce72b607287f9cbc370696981bde08c2a90800bda164e77", func := "armillary/armillarylaw08.VaultStays", spec := "vaultStays", unfollowed := true, recurses := true, apart := false, narrowed := true }
def VaultStaysUptoSaid : Prop := vaultStaysUptoRow.holds Try.pinned (OpenSpec.upto vaultStaysSpec)

/-- 'armillarylaw08.VaultSweeps', WHERE WHAT IT READS IS OF BULK AT MOST 1048576: true; the input reads as it did. -/
def vaultSweepsUptoRow : OpenClaim := { program := "ytieejgbjgcbbjaa", sum := "b9cef3da2eb29e2b6ce72b607287f9cbc370696981bde08c2a90800bda164e77", func := "armillary/armillarylaw08.VaultSweeps", spec := "vaultSweeps", unfollowed := true, recurses := true, apart := false, narrowed := true }
def VaultSweepsUptoSaid : Prop := vaultSweepsUptoRow.holds Try.pinned (OpenSpec.upto vaultSweepsSpec)

/-- 'armillarylaw08.VaultPlays', WHERE WHAT IT READS IS OF BULK AT MOST 1048576: true; the input reads as it did. -/
def vaultPlaysUptoRow : OpenClaim := { program := "ytieejgbjgcbbjaa", sum := "b9cef3da2eb29e2b6ce72b607287f9cbc370696981bde08c2a90800bda164e77", func := "armillary/armillarylaw08.VaultPlays", spec := "vaultPlays", unfollowed := true, recurses := true, apart := false, narrowed := true }
def VaultPlaysUptoSaid : Prop := vaultPlaysUptoRow.holds Try.pinned (OpenSpec.upto vaultPlaysSpec)

/-- 'armillarylaw08.VaultOwns', WHERE WHAT IT READS IS OF BULK AT MOST 1048576: true; the input reads as it did. -/
def vaultOwnsUptoRow : OpenClaim := { program := "ytieejgbjgcbbjaa", sum := "b9cef3da2eb29e2b6ce72b607287f9cbc370696981bde08c2a90800bda164e77", func := "armillary/armillarylaw08.VaultOwns", spec := "vaultOwns", unfollowed := true, recurses := true, apart := false, narrowed := true }
def VaultOwnsUptoSaid : Prop := vaultOwnsUptoRow.holds Try.pinned (OpenSpec.upto vaultOwnsSpec)

end Rows
end Go.Proofs.Ytieejgbjgcbbjaa
