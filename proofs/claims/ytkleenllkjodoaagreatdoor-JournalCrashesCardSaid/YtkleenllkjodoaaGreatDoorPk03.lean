/- Facts on the types of the program, one by one.  By a program (wip/gen/gsa.py). slices.AppendSeq, slices.Collect, maps.Keys at keys of type uint64, walked. Vectors, ops; slices.ContainsFunc at several types.  By a program (wip/gen/vec.py). Vectors, walked: Right, Clone, CutVec, SameVec. Arrays of numbers in an owned block. Shifts, bits, a string's byte. Chains: what they are; Len, Last, Search, after, At. Chains: after, At, copyOf, Put, New, List. Chains: copyOf, Put, New, List. The vault: what it is; holds, Check, copyOf. The scroll's writer: numbers, vectors, bytes. The vault: its state; holder, Blocked, open. The vault: copyOf, New, Lock. The vault: Apply, Free. maps.Keys at maps with keys of type uint64, walked. slices.Sort's parts at numbers of type uint64, walked: cmp.Less, insertionSort. slices.Sort's parts at numbers of type uint64, walked: siftDown, heapSort. slices.Sort's parts at numbers of type uint64, walked: heapSort, reverseRange. slices.Sort's parts at numbers of type uint64, walked: partition.  By a program (wip/gen/srt.py). slices.Sort's parts at numbers of type uint64, walked: partitionEqual.  By a program (wip/gen/srt.py). slices.Sort's parts at numbers of type uint64, walked: partialInsertionSort. slices.Sort's parts at numbers of type uint64, walked: the pivot. slices.Sort's parts at numbers of type uint64, walked: bits.Len, breakPatterns. slices.Sort's parts at numbers of type uint64, walked: breakPatterns. slices.Sort's parts at numbers of type uint64, walked: pdqsort. slices.Sort, slices.Sorted(maps.Keys(..)) at numbers of type uint64. The vault: ids, Dump (its length), Intents (its length), Get, Last. The vault: Get, Last. The vault's law: Few, awake. VaultApplies, walked. The ref's vault: what it is; Right, Check, Holds, Find, last, Chain, SameOps. The ref's vault: Free, SameOps, Check. The ref's vault: SameOps, Check. A slice's length is at most its capacity, as an entailment. The ref's vault: Lock. copy; append of zeros onto a slice that is full. Calls whose contracts want two or three of the list's assertions in front. The scroll's reader: peek, take, step, Num, Left, End, NewReader. slices.Equal of bytes; what is read back of a number's bytes. The document's Cut. Code behind a range over a function: the frame has something deferred. Sums of bytes: by fours of bits, and bit by bit; frames (pure). Bits of words of 32, of bytes. No condition. -/
import Derived.Test.YtkleenllkjodoaaGreatDoorProg
import Derived.KernelRfl
import Derived.Sort.Defs
import Derived.Sort.LotD1
import Derived.Sort.AssemblyPlain
import Derived.Lib.AppendZerosOnto
import Derived.Lib.Overlaps
import Derived.Laws.MakeOwn
import Derived.Test.YtkleenllkjodoaaGreatDoorPk02
set_option linter.unusedVariables false
set_option linter.unusedSimpArgs false
set_option linter.unusedSectionVars false
namespace Go.Proofs.YtkleenllkjodoaaGreatDoor
open Go Go.SX
instance hu0 : HasUnd Tryz.prog 0 := ⟨_, Tryz.runUnderlying0⟩
instance ty1 : Ty Tryz.prog 1 false 1 [.nilFunc] 8 := ⟨⟨Tryz.t1, _, by kernel_rfl, rfl, rfl, rfl, rfl⟩, Tryz.isAgg1, Tryz.sizeOf1, ⟨_, Tryz.zeroValue1, rfl⟩, ⟨_, Tryz.typeInfo1, rfl⟩⟩
instance hu1 : HasUnd Tryz.prog 1 := ⟨_, Tryz.runUnderlying1⟩
instance ty2 : Ty Tryz.prog 2 false 1 [.int .i64 0] 8 := ⟨⟨Tryz.t2, _, by kernel_rfl, rfl, rfl, rfl, rfl⟩, Tryz.isAgg2, Tryz.sizeOf2, ⟨_, Tryz.zeroValue2, rfl⟩, ⟨_, Tryz.typeInfo2, rfl⟩⟩
instance hu2 : HasUnd Tryz.prog 2 := ⟨_, Tryz.runUnderlying2⟩
instance it2 : IntTy Tryz.prog 2 .i64 := ⟨Tryz.runUnderlying2, Tryz.underlying2⟩
instance ty3 : Ty Tryz.prog 3 false 1 [.int .i64 0] 8 := ⟨⟨Tryz.t3, _, by kernel_rfl, rfl, rfl, rfl, rfl⟩, Tryz.isAgg3, Tryz.sizeOf3, ⟨_, Tryz.zeroValue3, rfl⟩, ⟨_, Tryz.typeInfo3, rfl⟩⟩
instance hu3 : HasUnd Tryz.prog 3 := ⟨_, Tryz.runUnderlying3⟩
instance it3 : IntTy Tryz.prog 3 .i64 := ⟨Tryz.runUnderlying3, Tryz.underlying3⟩
instance ty4 : Ty Tryz.prog 4 false 1 [.bool false] 1 := ⟨⟨Tryz.t4, _, by kernel_rfl, rfl, rfl, rfl, rfl⟩, Tryz.isAgg4, Tryz.sizeOf4, ⟨_, Tryz.zeroValue4, rfl⟩, ⟨_, Tryz.typeInfo4, rfl⟩⟩
instance hu4 : HasUnd Tryz.prog 4 := ⟨_, Tryz.runUnderlying4⟩
instance bt4 : BoolTy Tryz.prog 4 := ⟨Tryz.underlying4⟩
instance ty5 : Ty Tryz.prog 5 false 1 [.int .u8 0] 1 := ⟨⟨Tryz.t5, _, by kernel_rfl, rfl, rfl, rfl, rfl⟩, Tryz.isAgg5, Tryz.sizeOf5, ⟨_, Tryz.zeroValue5, rfl⟩, ⟨_, Tryz.typeInfo5, rfl⟩⟩
instance hu5 : HasUnd Tryz.prog 5 := ⟨_, Tryz.runUnderlying5⟩
instance it5 : IntTy Tryz.prog 5 .u8 := ⟨Tryz.runUnderlying5, Tryz.underlying5⟩
instance ty6 : Ty Tryz.prog 6 false 1 [.int .u8 0] 1 := ⟨⟨Tryz.t6, _, by kernel_rfl, rfl, rfl, rfl, rfl⟩, Tryz.isAgg6, Tryz.sizeOf6, ⟨_, Tryz.zeroValue6, rfl⟩, ⟨_, Tryz.typeInfo6, rfl⟩⟩
instance hu6 : HasUnd Tryz.prog 6 := ⟨_, Tryz.runUnderlying6⟩
instance it6 : IntTy Tryz.prog 6 .u8 := ⟨Tryz.runUnderlying6, Tryz.underlying6⟩
instance ty7 : Ty Tryz.prog 7 true 4 [.int .i64 0, .int .i64 0, .bool false, .int .u8 0] 24 := ⟨⟨Tryz.t7, _, by kernel_rfl, rfl, rfl, rfl, rfl⟩, Tryz.isAgg7, Tryz.sizeOf7, ⟨_, Tryz.zeroValue7, rfl⟩, ⟨_, Tryz.typeInfo7, rfl⟩⟩
instance hu7 : HasUnd Tryz.prog 7 := ⟨_, Tryz.runUnderlying7⟩
instance ss7 : StTy Tryz.prog 7 [(0, 1, false), (1, 1, false), (2, 1, false), (3, 1, false)] := ⟨_, Tryz.runUnderlying7, rfl, fun i off sz ag h => match i, h with
  | 0, h => by simp only [List.getElem?_cons_zero, List.getElem?_cons_succ, Option.some.injEq, Prod.mk.injEq] at h; obtain ⟨rfl, rfl, rfl⟩ := h; exact ⟨_, rfl, rfl, Tryz.sizeOf2, Tryz.isAgg2⟩
  | 1, h => by simp only [List.getElem?_cons_zero, List.getElem?_cons_succ, Option.some.injEq, Prod.mk.injEq] at h; obtain ⟨rfl, rfl, rfl⟩ := h; exact ⟨_, rfl, rfl, Tryz.sizeOf3, Tryz.isAgg3⟩
  | 2, h => by simp only [List.getElem?_cons_zero, List.getElem?_cons_succ, Option.some.injEq, Prod.mk.injEq] at h; obtain ⟨rfl, rfl, rfl⟩ := h; exact ⟨_, rfl, rfl, Tryz.sizeOf4, Tryz.isAgg4⟩
  | 3, h => by simp only [List.getElem?_cons_zero, List.getElem?_cons_succ, Option.some.injEq, Prod.mk.injEq] at h; obtain ⟨rfl, rfl, rfl⟩ := h; exact ⟨_, rfl, rfl, Tryz.sizeOf6, Tryz.isAgg6⟩
  | (i + 4), h => by simp at h⟩
instance ty8 : Ty Tryz.prog 8 true 4 [.int .i64 0, .int .i64 0, .bool false, .int .u8 0] 24 := ⟨⟨Tryz.t8, _, by kernel_rfl, rfl, rfl, rfl, rfl⟩, Tryz.isAgg8, Tryz.sizeOf8, ⟨_, Tryz.zeroValue8, rfl⟩, ⟨_, Tryz.typeInfo8, rfl⟩⟩
instance hu8 : HasUnd Tryz.prog 8 := ⟨_, Tryz.runUnderlying8⟩
instance ss8 : StTy Tryz.prog 8 [(0, 1, false), (1, 1, false), (2, 1, false), (3, 1, false)] := ⟨_, Tryz.runUnderlying8, rfl, fun i off sz ag h => match i, h with
  | 0, h => by simp only [List.getElem?_cons_zero, List.getElem?_cons_succ, Option.some.injEq, Prod.mk.injEq] at h; obtain ⟨rfl, rfl, rfl⟩ := h; exact ⟨_, rfl, rfl, Tryz.sizeOf2, Tryz.isAgg2⟩
  | 1, h => by simp only [List.getElem?_cons_zero, List.getElem?_cons_succ, Option.some.injEq, Prod.mk.injEq] at h; obtain ⟨rfl, rfl, rfl⟩ := h; exact ⟨_, rfl, rfl, Tryz.sizeOf3, Tryz.isAgg3⟩
  | 2, h => by simp only [List.getElem?_cons_zero, List.getElem?_cons_succ, Option.some.injEq, Prod.mk.injEq] at h; obtain ⟨rfl, rfl, rfl⟩ := h; exact ⟨_, rfl, rfl, Tryz.sizeOf4, Tryz.isAgg4⟩
  | 3, h => by simp only [List.getElem?_cons_zero, List.getElem?_cons_succ, Option.some.injEq, Prod.mk.injEq] at h; obtain ⟨rfl, rfl, rfl⟩ := h; exact ⟨_, rfl, rfl, Tryz.sizeOf6, Tryz.isAgg6⟩
  | (i + 4), h => by simp at h⟩
instance ty9 : Ty Tryz.prog 9 false 1 [.string ⟨#[]⟩] 16 := ⟨⟨Tryz.t9, _, by kernel_rfl, rfl, rfl, rfl, rfl⟩, Tryz.isAgg9, Tryz.sizeOf9, ⟨_, Tryz.zeroValue9, rfl⟩, ⟨_, Tryz.typeInfo9, rfl⟩⟩
instance hu9 : HasUnd Tryz.prog 9 := ⟨_, Tryz.runUnderlying9⟩
instance st9 : StrTy Tryz.prog 9 := ⟨Tryz.runUnderlying9, Tryz.underlying9⟩
instance ty10 : Ty Tryz.prog 10 false 1 [.string ⟨#[]⟩] 16 := ⟨⟨Tryz.t10, _, by kernel_rfl, rfl, rfl, rfl, rfl⟩, Tryz.isAgg10, Tryz.sizeOf10, ⟨_, Tryz.zeroValue10, rfl⟩, ⟨_, Tryz.typeInfo10, rfl⟩⟩
instance hu10 : HasUnd Tryz.prog 10 := ⟨_, Tryz.runUnderlying10⟩
instance st10 : StrTy Tryz.prog 10 := ⟨Tryz.runUnderlying10, Tryz.underlying10⟩
instance ty11 : Ty Tryz.prog 11 false 1 [.string ⟨#[]⟩] 16 := ⟨⟨Tryz.t11, _, by kernel_rfl, rfl, rfl, rfl, rfl⟩, Tryz.isAgg11, Tryz.sizeOf11, ⟨_, Tryz.zeroValue11, rfl⟩, ⟨_, Tryz.typeInfo11, rfl⟩⟩
instance hu11 : HasUnd Tryz.prog 11 := ⟨_, Tryz.runUnderlying11⟩
instance st11 : StrTy Tryz.prog 11 := ⟨Tryz.runUnderlying11, Tryz.underlying11⟩
instance ty12 : Ty Tryz.prog 12 false 1 [.int .u64 0] 8 := ⟨⟨Tryz.t12, _, by kernel_rfl, rfl, rfl, rfl, rfl⟩, Tryz.isAgg12, Tryz.sizeOf12, ⟨_, Tryz.zeroValue12, rfl⟩, ⟨_, Tryz.typeInfo12, rfl⟩⟩
instance hu12 : HasUnd Tryz.prog 12 := ⟨_, Tryz.runUnderlying12⟩
instance it12 : IntTy Tryz.prog 12 .u64 := ⟨Tryz.runUnderlying12, Tryz.underlying12⟩
instance ty13 : Ty Tryz.prog 13 true 2 [.string ⟨#[]⟩, .int .u64 0] 24 := ⟨⟨Tryz.t13, _, by kernel_rfl, rfl, rfl, rfl, rfl⟩, Tryz.isAgg13, Tryz.sizeOf13, ⟨_, Tryz.zeroValue13, rfl⟩, ⟨_, Tryz.typeInfo13, rfl⟩⟩
instance hu13 : HasUnd Tryz.prog 13 := ⟨_, Tryz.runUnderlying13⟩
instance ss13 : StTy Tryz.prog 13 [(0, 1, false), (1, 1, false)] := ⟨_, Tryz.runUnderlying13, rfl, fun i off sz ag h => match i, h with
  | 0, h => by simp only [List.getElem?_cons_zero, List.getElem?_cons_succ, Option.some.injEq, Prod.mk.injEq] at h; obtain ⟨rfl, rfl, rfl⟩ := h; exact ⟨_, rfl, rfl, Tryz.sizeOf9, Tryz.isAgg9⟩
  | 1, h => by simp only [List.getElem?_cons_zero, List.getElem?_cons_succ, Option.some.injEq, Prod.mk.injEq] at h; obtain ⟨rfl, rfl, rfl⟩ := h; exact ⟨_, rfl, rfl, Tryz.sizeOf12, Tryz.isAgg12⟩
  | (i + 2), h => by simp at h⟩
instance ty14 : Ty Tryz.prog 14 true 2 [.string ⟨#[]⟩, .int .u64 0] 24 := ⟨⟨Tryz.t14, _, by kernel_rfl, rfl, rfl, rfl, rfl⟩, Tryz.isAgg14, Tryz.sizeOf14, ⟨_, Tryz.zeroValue14, rfl⟩, ⟨_, Tryz.typeInfo14, rfl⟩⟩
instance hu14 : HasUnd Tryz.prog 14 := ⟨_, Tryz.runUnderlying14⟩
instance ss14 : StTy Tryz.prog 14 [(0, 1, false), (1, 1, false)] := ⟨_, Tryz.runUnderlying14, rfl, fun i off sz ag h => match i, h with
  | 0, h => by simp only [List.getElem?_cons_zero, List.getElem?_cons_succ, Option.some.injEq, Prod.mk.injEq] at h; obtain ⟨rfl, rfl, rfl⟩ := h; exact ⟨_, rfl, rfl, Tryz.sizeOf9, Tryz.isAgg9⟩
  | 1, h => by simp only [List.getElem?_cons_zero, List.getElem?_cons_succ, Option.some.injEq, Prod.mk.injEq] at h; obtain ⟨rfl, rfl, rfl⟩ := h; exact ⟨_, rfl, rfl, Tryz.sizeOf12, Tryz.isAgg12⟩
  | (i + 2), h => by simp at h⟩
instance ty15 : Ty Tryz.prog 15 false 1 [.pointer none] 8 := ⟨⟨Tryz.t15, _, by kernel_rfl, rfl, rfl, rfl, rfl⟩, Tryz.isAgg15, Tryz.sizeOf15, ⟨_, Tryz.zeroValue15, rfl⟩, ⟨_, Tryz.typeInfo15, rfl⟩⟩
instance hu15 : HasUnd Tryz.prog 15 := ⟨_, Tryz.runUnderlying15⟩
instance pt15 : PtrTy Tryz.prog 15 191 := ⟨Tryz.runUnderlying15, Tryz.underlying15⟩
instance ty16 : Ty Tryz.prog 16 false 1 [.pointer none] 8 := ⟨⟨Tryz.t16, _, by kernel_rfl, rfl, rfl, rfl, rfl⟩, Tryz.isAgg16, Tryz.sizeOf16, ⟨_, Tryz.zeroValue16, rfl⟩, ⟨_, Tryz.typeInfo16, rfl⟩⟩
instance hu16 : HasUnd Tryz.prog 16 := ⟨_, Tryz.runUnderlying16⟩
instance pt16 : PtrTy Tryz.prog 16 194 := ⟨Tryz.runUnderlying16, Tryz.underlying16⟩
instance ty17 : Ty Tryz.prog 17 false 1 [.pointer none] 8 := ⟨⟨Tryz.t17, _, by kernel_rfl, rfl, rfl, rfl, rfl⟩, Tryz.isAgg17, Tryz.sizeOf17, ⟨_, Tryz.zeroValue17, rfl⟩, ⟨_, Tryz.typeInfo17, rfl⟩⟩
instance hu17 : HasUnd Tryz.prog 17 := ⟨_, Tryz.runUnderlying17⟩
instance pt17 : PtrTy Tryz.prog 17 201 := ⟨Tryz.runUnderlying17, Tryz.underlying17⟩
instance ty18 : Ty Tryz.prog 18 true 1 [.pointer none] 8 := ⟨⟨Tryz.t18, _, by kernel_rfl, rfl, rfl, rfl, rfl⟩, Tryz.isAgg18, Tryz.sizeOf18, ⟨_, Tryz.zeroValue18, rfl⟩, ⟨_, Tryz.typeInfo18, rfl⟩⟩
instance hu18 : HasUnd Tryz.prog 18 := ⟨_, Tryz.runUnderlying18⟩
instance ss18 : StTy Tryz.prog 18 [(0, 1, false)] := ⟨_, Tryz.runUnderlying18, rfl, fun i off sz ag h => match i, h with
  | 0, h => by simp only [List.getElem?_cons_zero, List.getElem?_cons_succ, Option.some.injEq, Prod.mk.injEq] at h; obtain ⟨rfl, rfl, rfl⟩ := h; exact ⟨_, rfl, rfl, Tryz.sizeOf17, Tryz.isAgg17⟩
  | (i + 1), h => by simp at h⟩
instance ty19 : Ty Tryz.prog 19 true 1 [.pointer none] 8 := ⟨⟨Tryz.t19, _, by kernel_rfl, rfl, rfl, rfl, rfl⟩, Tryz.isAgg19, Tryz.sizeOf19, ⟨_, Tryz.zeroValue19, rfl⟩, ⟨_, Tryz.typeInfo19, rfl⟩⟩
instance hu19 : HasUnd Tryz.prog 19 := ⟨_, Tryz.runUnderlying19⟩
instance ss19 : StTy Tryz.prog 19 [(0, 1, false)] := ⟨_, Tryz.runUnderlying19, rfl, fun i off sz ag h => match i, h with
  | 0, h => by simp only [List.getElem?_cons_zero, List.getElem?_cons_succ, Option.some.injEq, Prod.mk.injEq] at h; obtain ⟨rfl, rfl, rfl⟩ := h; exact ⟨_, rfl, rfl, Tryz.sizeOf17, Tryz.isAgg17⟩
  | (i + 1), h => by simp at h⟩
instance ty20 : Ty Tryz.prog 20 false 1 [.nilIface] 16 := ⟨⟨Tryz.t20, _, by kernel_rfl, rfl, rfl, rfl, rfl⟩, Tryz.isAgg20, Tryz.sizeOf20, ⟨_, Tryz.zeroValue20, rfl⟩, ⟨_, Tryz.typeInfo20, rfl⟩⟩
instance hu20 : HasUnd Tryz.prog 20 := ⟨_, Tryz.runUnderlying20⟩
instance ty21 : Ty Tryz.prog 21 false 1 [.int .i32 0] 4 := ⟨⟨Tryz.t21, _, by kernel_rfl, rfl, rfl, rfl, rfl⟩, Tryz.isAgg21, Tryz.sizeOf21, ⟨_, Tryz.zeroValue21, rfl⟩, ⟨_, Tryz.typeInfo21, rfl⟩⟩
instance hu21 : HasUnd Tryz.prog 21 := ⟨_, Tryz.runUnderlying21⟩
instance it21 : IntTy Tryz.prog 21 .i32 := ⟨Tryz.runUnderlying21, Tryz.underlying21⟩
instance ty22 : Ty Tryz.prog 22 false 1 [.int .u16 0] 2 := ⟨⟨Tryz.t22, _, by kernel_rfl, rfl, rfl, rfl, rfl⟩, Tryz.isAgg22, Tryz.sizeOf22, ⟨_, Tryz.zeroValue22, rfl⟩, ⟨_, Tryz.typeInfo22, rfl⟩⟩
instance hu22 : HasUnd Tryz.prog 22 := ⟨_, Tryz.runUnderlying22⟩
instance it22 : IntTy Tryz.prog 22 .u16 := ⟨Tryz.runUnderlying22, Tryz.underlying22⟩
instance ty23 : Ty Tryz.prog 23 false 1 [.slice none 0 0] 24 := ⟨⟨Tryz.t23, _, by kernel_rfl, rfl, rfl, rfl, rfl⟩, Tryz.isAgg23, Tryz.sizeOf23, ⟨_, Tryz.zeroValue23, rfl⟩, ⟨_, Tryz.typeInfo23, rfl⟩⟩
instance hu23 : HasUnd Tryz.prog 23 := ⟨_, Tryz.runUnderlying23⟩
instance sl23 : SlTy Tryz.prog 23 31 := ⟨Tryz.runUnderlying23, Tryz.underlying23⟩
instance ty24 : Ty Tryz.prog 24 false 1 [.nilFunc] 8 := ⟨⟨Tryz.t24, _, by kernel_rfl, rfl, rfl, rfl, rfl⟩, Tryz.isAgg24, Tryz.sizeOf24, ⟨_, Tryz.zeroValue24, rfl⟩, ⟨_, Tryz.typeInfo24, rfl⟩⟩
instance hu24 : HasUnd Tryz.prog 24 := ⟨_, Tryz.runUnderlying24⟩
instance ty25 : Ty Tryz.prog 25 false 1 [.pointer none] 8 := ⟨⟨Tryz.t25, _, by kernel_rfl, rfl, rfl, rfl, rfl⟩, Tryz.isAgg25, Tryz.sizeOf25, ⟨_, Tryz.zeroValue25, rfl⟩, ⟨_, Tryz.typeInfo25, rfl⟩⟩
instance hu25 : HasUnd Tryz.prog 25 := ⟨_, Tryz.runUnderlying25⟩
instance pt25 : PtrTy Tryz.prog 25 87 := ⟨Tryz.runUnderlying25, Tryz.underlying25⟩
instance ty26 : Ty Tryz.prog 26 false 1 [.pointer none] 8 := ⟨⟨Tryz.t26, _, by kernel_rfl, rfl, rfl, rfl, rfl⟩, Tryz.isAgg26, Tryz.sizeOf26, ⟨_, Tryz.zeroValue26, rfl⟩, ⟨_, Tryz.typeInfo26, rfl⟩⟩
instance hu26 : HasUnd Tryz.prog 26 := ⟨_, Tryz.runUnderlying26⟩
instance pt26 : PtrTy Tryz.prog 26 81 := ⟨Tryz.runUnderlying26, Tryz.underlying26⟩
instance ty27 : Ty Tryz.prog 27 false 1 [.pointer none] 8 := ⟨⟨Tryz.t27, _, by kernel_rfl, rfl, rfl, rfl, rfl⟩, Tryz.isAgg27, Tryz.sizeOf27, ⟨_, Tryz.zeroValue27, rfl⟩, ⟨_, Tryz.typeInfo27, rfl⟩⟩
instance hu27 : HasUnd Tryz.prog 27 := ⟨_, Tryz.runUnderlying27⟩
instance pt27 : PtrTy Tryz.prog 27 66 := ⟨Tryz.runUnderlying27, Tryz.underlying27⟩
instance hu28 : HasUnd Tryz.prog 28 := ⟨_, Tryz.runUnderlying28⟩
instance ty29 : Ty Tryz.prog 29 false 1 [.nilFunc] 8 := ⟨⟨Tryz.t29, _, by kernel_rfl, rfl, rfl, rfl, rfl⟩, Tryz.isAgg29, Tryz.sizeOf29, ⟨_, Tryz.zeroValue29, rfl⟩, ⟨_, Tryz.typeInfo29, rfl⟩⟩
instance hu29 : HasUnd Tryz.prog 29 := ⟨_, Tryz.runUnderlying29⟩
instance ty30 : Ty Tryz.prog 30 false 1 [.nilFunc] 8 := ⟨⟨Tryz.t30, _, by kernel_rfl, rfl, rfl, rfl, rfl⟩, Tryz.isAgg30, Tryz.sizeOf30, ⟨_, Tryz.zeroValue30, rfl⟩, ⟨_, Tryz.typeInfo30, rfl⟩⟩
instance hu30 : HasUnd Tryz.prog 30 := ⟨_, Tryz.runUnderlying30⟩
instance ty31 : Ty Tryz.prog 31 false 1 [.slice none 0 0] 24 := ⟨⟨Tryz.t31, _, by kernel_rfl, rfl, rfl, rfl, rfl⟩, Tryz.isAgg31, Tryz.sizeOf31, ⟨_, Tryz.zeroValue31, rfl⟩, ⟨_, Tryz.typeInfo31, rfl⟩⟩
instance hu31 : HasUnd Tryz.prog 31 := ⟨_, Tryz.runUnderlying31⟩
instance sl31 : SlTy Tryz.prog 31 5 := ⟨Tryz.runUnderlying31, Tryz.underlying31⟩
instance ty32 : Ty Tryz.prog 32 false 1 [.int .u64 0] 8 := ⟨⟨Tryz.t32, _, by kernel_rfl, rfl, rfl, rfl, rfl⟩, Tryz.isAgg32, Tryz.sizeOf32, ⟨_, Tryz.zeroValue32, rfl⟩, ⟨_, Tryz.typeInfo32, rfl⟩⟩
instance hu32 : HasUnd Tryz.prog 32 := ⟨_, Tryz.runUnderlying32⟩
instance it32 : IntTy Tryz.prog 32 .u64 := ⟨Tryz.runUnderlying32, Tryz.underlying32⟩
instance ty33 : Ty Tryz.prog 33 false 1 [.nilFunc] 8 := ⟨⟨Tryz.t33, _, by kernel_rfl, rfl, rfl, rfl, rfl⟩, Tryz.isAgg33, Tryz.sizeOf33, ⟨_, Tryz.zeroValue33, rfl⟩, ⟨_, Tryz.typeInfo33, rfl⟩⟩
instance hu33 : HasUnd Tryz.prog 33 := ⟨_, Tryz.runUnderlying33⟩
instance ty34 : Ty Tryz.prog 34 false 1 [.int .i64 0] 8 := ⟨⟨Tryz.t34, _, by kernel_rfl, rfl, rfl, rfl, rfl⟩, Tryz.isAgg34, Tryz.sizeOf34, ⟨_, Tryz.zeroValue34, rfl⟩, ⟨_, Tryz.typeInfo34, rfl⟩⟩
instance hu34 : HasUnd Tryz.prog 34 := ⟨_, Tryz.runUnderlying34⟩
instance it34 : IntTy Tryz.prog 34 .i64 := ⟨Tryz.runUnderlying34, Tryz.underlying34⟩
instance ty35 : Ty Tryz.prog 35 false 1 [.nilFunc] 8 := ⟨⟨Tryz.t35, _, by kernel_rfl, rfl, rfl, rfl, rfl⟩, Tryz.isAgg35, Tryz.sizeOf35, ⟨_, Tryz.zeroValue35, rfl⟩, ⟨_, Tryz.typeInfo35, rfl⟩⟩
instance hu35 : HasUnd Tryz.prog 35 := ⟨_, Tryz.runUnderlying35⟩
instance ty36 : Ty Tryz.prog 36 true 2 [.slice none 0 0, .slice none 0 0] 48 := ⟨⟨Tryz.t36, _, by kernel_rfl, rfl, rfl, rfl, rfl⟩, Tryz.isAgg36, Tryz.sizeOf36, ⟨_, Tryz.zeroValue36, rfl⟩, ⟨_, Tryz.typeInfo36, rfl⟩⟩
instance hu36 : HasUnd Tryz.prog 36 := ⟨_, Tryz.runUnderlying36⟩
instance ss36 : StTy Tryz.prog 36 [(0, 1, false), (1, 1, false)] := ⟨_, Tryz.runUnderlying36, rfl, fun i off sz ag h => match i, h with
  | 0, h => by simp only [List.getElem?_cons_zero, List.getElem?_cons_succ, Option.some.injEq, Prod.mk.injEq] at h; obtain ⟨rfl, rfl, rfl⟩ := h; exact ⟨_, rfl, rfl, Tryz.sizeOf31, Tryz.isAgg31⟩
  | 1, h => by simp only [List.getElem?_cons_zero, List.getElem?_cons_succ, Option.some.injEq, Prod.mk.injEq] at h; obtain ⟨rfl, rfl, rfl⟩ := h; exact ⟨_, rfl, rfl, Tryz.sizeOf23, Tryz.isAgg23⟩
  | (i + 2), h => by simp at h⟩
instance ty37 : Ty Tryz.prog 37 true 2 [.slice none 0 0, .slice none 0 0] 48 := ⟨⟨Tryz.t37, _, by kernel_rfl, rfl, rfl, rfl, rfl⟩, Tryz.isAgg37, Tryz.sizeOf37, ⟨_, Tryz.zeroValue37, rfl⟩, ⟨_, Tryz.typeInfo37, rfl⟩⟩
instance hu37 : HasUnd Tryz.prog 37 := ⟨_, Tryz.runUnderlying37⟩
instance ss37 : StTy Tryz.prog 37 [(0, 1, false), (1, 1, false)] := ⟨_, Tryz.runUnderlying37, rfl, fun i off sz ag h => match i, h with
  | 0, h => by simp only [List.getElem?_cons_zero, List.getElem?_cons_succ, Option.some.injEq, Prod.mk.injEq] at h; obtain ⟨rfl, rfl, rfl⟩ := h; exact ⟨_, rfl, rfl, Tryz.sizeOf31, Tryz.isAgg31⟩
  | 1, h => by simp only [List.getElem?_cons_zero, List.getElem?_cons_succ, Option.some.injEq, Prod.mk.injEq] at h; obtain ⟨rfl, rfl, rfl⟩ := h; exact ⟨_, rfl, rfl, Tryz.sizeOf23, Tryz.isAgg23⟩
  | (i + 2), h => by simp at h⟩
instance hu38 : HasUnd Tryz.prog 38 := ⟨_, Tryz.runUnderlying38⟩
instance ty39 : Ty Tryz.prog 39 false 1 [.nilFunc] 8 := ⟨⟨Tryz.t39, _, by kernel_rfl, rfl, rfl, rfl, rfl⟩, Tryz.isAgg39, Tryz.sizeOf39, ⟨_, Tryz.zeroValue39, rfl⟩, ⟨_, Tryz.typeInfo39, rfl⟩⟩
instance hu39 : HasUnd Tryz.prog 39 := ⟨_, Tryz.runUnderlying39⟩
instance ty40 : Ty Tryz.prog 40 false 1 [.nilFunc] 8 := ⟨⟨Tryz.t40, _, by kernel_rfl, rfl, rfl, rfl, rfl⟩, Tryz.isAgg40, Tryz.sizeOf40, ⟨_, Tryz.zeroValue40, rfl⟩, ⟨_, Tryz.typeInfo40, rfl⟩⟩
instance hu40 : HasUnd Tryz.prog 40 := ⟨_, Tryz.runUnderlying40⟩
instance ty41 : Ty Tryz.prog 41 false 1 [.nilFunc] 8 := ⟨⟨Tryz.t41, _, by kernel_rfl, rfl, rfl, rfl, rfl⟩, Tryz.isAgg41, Tryz.sizeOf41, ⟨_, Tryz.zeroValue41, rfl⟩, ⟨_, Tryz.typeInfo41, rfl⟩⟩
instance hu41 : HasUnd Tryz.prog 41 := ⟨_, Tryz.runUnderlying41⟩
instance hu42 : HasUnd Tryz.prog 42 := ⟨_, Tryz.runUnderlying42⟩
instance ty43 : Ty Tryz.prog 43 false 1 [.nilFunc] 8 := ⟨⟨Tryz.t43, _, by kernel_rfl, rfl, rfl, rfl, rfl⟩, Tryz.isAgg43, Tryz.sizeOf43, ⟨_, Tryz.zeroValue43, rfl⟩, ⟨_, Tryz.typeInfo43, rfl⟩⟩
instance hu43 : HasUnd Tryz.prog 43 := ⟨_, Tryz.runUnderlying43⟩
instance ty44 : Ty Tryz.prog 44 false 1 [.nilFunc] 8 := ⟨⟨Tryz.t44, _, by kernel_rfl, rfl, rfl, rfl, rfl⟩, Tryz.isAgg44, Tryz.sizeOf44, ⟨_, Tryz.zeroValue44, rfl⟩, ⟨_, Tryz.typeInfo44, rfl⟩⟩
instance hu44 : HasUnd Tryz.prog 44 := ⟨_, Tryz.runUnderlying44⟩
instance ty45 : Ty Tryz.prog 45 false 1 [.nilFunc] 8 := ⟨⟨Tryz.t45, _, by kernel_rfl, rfl, rfl, rfl, rfl⟩, Tryz.isAgg45, Tryz.sizeOf45, ⟨_, Tryz.zeroValue45, rfl⟩, ⟨_, Tryz.typeInfo45, rfl⟩⟩
instance hu45 : HasUnd Tryz.prog 45 := ⟨_, Tryz.runUnderlying45⟩
instance ty46 : Ty Tryz.prog 46 false 1 [.nilFunc] 8 := ⟨⟨Tryz.t46, _, by kernel_rfl, rfl, rfl, rfl, rfl⟩, Tryz.isAgg46, Tryz.sizeOf46, ⟨_, Tryz.zeroValue46, rfl⟩, ⟨_, Tryz.typeInfo46, rfl⟩⟩
instance hu46 : HasUnd Tryz.prog 46 := ⟨_, Tryz.runUnderlying46⟩
instance hu47 : HasUnd Tryz.prog 47 := ⟨_, Tryz.runUnderlying47⟩
instance ty48 : Ty Tryz.prog 48 false 1 [.nilFunc] 8 := ⟨⟨Tryz.t48, _, by kernel_rfl, rfl, rfl, rfl, rfl⟩, Tryz.isAgg48, Tryz.sizeOf48, ⟨_, Tryz.zeroValue48, rfl⟩, ⟨_, Tryz.typeInfo48, rfl⟩⟩
instance hu48 : HasUnd Tryz.prog 48 := ⟨_, Tryz.runUnderlying48⟩
instance ty49 : Ty Tryz.prog 49 false 1 [.nilFunc] 8 := ⟨⟨Tryz.t49, _, by kernel_rfl, rfl, rfl, rfl, rfl⟩, Tryz.isAgg49, Tryz.sizeOf49, ⟨_, Tryz.zeroValue49, rfl⟩, ⟨_, Tryz.typeInfo49, rfl⟩⟩
instance hu49 : HasUnd Tryz.prog 49 := ⟨_, Tryz.runUnderlying49⟩
instance hu50 : HasUnd Tryz.prog 50 := ⟨_, Tryz.runUnderlying50⟩
instance ty51 : Ty Tryz.prog 51 false 1 [.nilFunc] 8 := ⟨⟨Tryz.t51, _, by kernel_rfl, rfl, rfl, rfl, rfl⟩, Tryz.isAgg51, Tryz.sizeOf51, ⟨_, Tryz.zeroValue51, rfl⟩, ⟨_, Tryz.typeInfo51, rfl⟩⟩
instance hu51 : HasUnd Tryz.prog 51 := ⟨_, Tryz.runUnderlying51⟩
instance hu52 : HasUnd Tryz.prog 52 := ⟨_, Tryz.runUnderlying52⟩
instance ty53 : Ty Tryz.prog 53 false 1 [.nilFunc] 8 := ⟨⟨Tryz.t53, _, by kernel_rfl, rfl, rfl, rfl, rfl⟩, Tryz.isAgg53, Tryz.sizeOf53, ⟨_, Tryz.zeroValue53, rfl⟩, ⟨_, Tryz.typeInfo53, rfl⟩⟩
instance hu53 : HasUnd Tryz.prog 53 := ⟨_, Tryz.runUnderlying53⟩
instance ty54 : Ty Tryz.prog 54 false 1 [.slice none 0 0] 24 := ⟨⟨Tryz.t54, _, by kernel_rfl, rfl, rfl, rfl, rfl⟩, Tryz.isAgg54, Tryz.sizeOf54, ⟨_, Tryz.zeroValue54, rfl⟩, ⟨_, Tryz.typeInfo54, rfl⟩⟩
instance hu54 : HasUnd Tryz.prog 54 := ⟨_, Tryz.runUnderlying54⟩
instance sl54 : SlTy Tryz.prog 54 9 := ⟨Tryz.runUnderlying54, Tryz.underlying54⟩
instance ty55 : Ty Tryz.prog 55 false 1 [.nilFunc] 8 := ⟨⟨Tryz.t55, _, by kernel_rfl, rfl, rfl, rfl, rfl⟩, Tryz.isAgg55, Tryz.sizeOf55, ⟨_, Tryz.zeroValue55, rfl⟩, ⟨_, Tryz.typeInfo55, rfl⟩⟩
instance hu55 : HasUnd Tryz.prog 55 := ⟨_, Tryz.runUnderlying55⟩
instance ty56 : Ty Tryz.prog 56 false 1 [.nilFunc] 8 := ⟨⟨Tryz.t56, _, by kernel_rfl, rfl, rfl, rfl, rfl⟩, Tryz.isAgg56, Tryz.sizeOf56, ⟨_, Tryz.zeroValue56, rfl⟩, ⟨_, Tryz.typeInfo56, rfl⟩⟩
instance hu56 : HasUnd Tryz.prog 56 := ⟨_, Tryz.runUnderlying56⟩
instance ty57 : Ty Tryz.prog 57 false 1 [.nilFunc] 8 := ⟨⟨Tryz.t57, _, by kernel_rfl, rfl, rfl, rfl, rfl⟩, Tryz.isAgg57, Tryz.sizeOf57, ⟨_, Tryz.zeroValue57, rfl⟩, ⟨_, Tryz.typeInfo57, rfl⟩⟩
instance hu57 : HasUnd Tryz.prog 57 := ⟨_, Tryz.runUnderlying57⟩
instance ty58 : Ty Tryz.prog 58 false 1 [.slice none 0 0] 24 := ⟨⟨Tryz.t58, _, by kernel_rfl, rfl, rfl, rfl, rfl⟩, Tryz.isAgg58, Tryz.sizeOf58, ⟨_, Tryz.zeroValue58, rfl⟩, ⟨_, Tryz.typeInfo58, rfl⟩⟩
instance hu58 : HasUnd Tryz.prog 58 := ⟨_, Tryz.runUnderlying58⟩
instance sl58 : SlTy Tryz.prog 58 62 := ⟨Tryz.runUnderlying58, Tryz.underlying58⟩
instance ty59 : Ty Tryz.prog 59 false 1 [.slice none 0 0] 24 := ⟨⟨Tryz.t59, _, by kernel_rfl, rfl, rfl, rfl, rfl⟩, Tryz.isAgg59, Tryz.sizeOf59, ⟨_, Tryz.zeroValue59, rfl⟩, ⟨_, Tryz.typeInfo59, rfl⟩⟩
instance hu59 : HasUnd Tryz.prog 59 := ⟨_, Tryz.runUnderlying59⟩
instance sl59 : SlTy Tryz.prog 59 3 := ⟨Tryz.runUnderlying59, Tryz.underlying59⟩
instance ty60 : Ty Tryz.prog 60 false 1 [.nilFunc] 8 := ⟨⟨Tryz.t60, _, by kernel_rfl, rfl, rfl, rfl, rfl⟩, Tryz.isAgg60, Tryz.sizeOf60, ⟨_, Tryz.zeroValue60, rfl⟩, ⟨_, Tryz.typeInfo60, rfl⟩⟩
instance hu60 : HasUnd Tryz.prog 60 := ⟨_, Tryz.runUnderlying60⟩
instance ty61 : Ty Tryz.prog 61 true 3 [.int .u8 0, .slice none 0 0, .int .i64 0] 40 := ⟨⟨Tryz.t61, _, by kernel_rfl, rfl, rfl, rfl, rfl⟩, Tryz.isAgg61, Tryz.sizeOf61, ⟨_, Tryz.zeroValue61, rfl⟩, ⟨_, Tryz.typeInfo61, rfl⟩⟩
instance hu61 : HasUnd Tryz.prog 61 := ⟨_, Tryz.runUnderlying61⟩
instance ss61 : StTy Tryz.prog 61 [(0, 1, false), (1, 1, false), (2, 1, false)] := ⟨_, Tryz.runUnderlying61, rfl, fun i off sz ag h => match i, h with
  | 0, h => by simp only [List.getElem?_cons_zero, List.getElem?_cons_succ, Option.some.injEq, Prod.mk.injEq] at h; obtain ⟨rfl, rfl, rfl⟩ := h; exact ⟨_, rfl, rfl, Tryz.sizeOf5, Tryz.isAgg5⟩
  | 1, h => by simp only [List.getElem?_cons_zero, List.getElem?_cons_succ, Option.some.injEq, Prod.mk.injEq] at h; obtain ⟨rfl, rfl, rfl⟩ := h; exact ⟨_, rfl, rfl, Tryz.sizeOf23, Tryz.isAgg23⟩
  | 2, h => by simp only [List.getElem?_cons_zero, List.getElem?_cons_succ, Option.some.injEq, Prod.mk.injEq] at h; obtain ⟨rfl, rfl, rfl⟩ := h; exact ⟨_, rfl, rfl, Tryz.sizeOf3, Tryz.isAgg3⟩
  | (i + 3), h => by simp at h⟩
instance ty62 : Ty Tryz.prog 62 true 3 [.int .u8 0, .slice none 0 0, .int .i64 0] 40 := ⟨⟨Tryz.t62, _, by kernel_rfl, rfl, rfl, rfl, rfl⟩, Tryz.isAgg62, Tryz.sizeOf62, ⟨_, Tryz.zeroValue62, rfl⟩, ⟨_, Tryz.typeInfo62, rfl⟩⟩
instance hu62 : HasUnd Tryz.prog 62 := ⟨_, Tryz.runUnderlying62⟩
instance ss62 : StTy Tryz.prog 62 [(0, 1, false), (1, 1, false), (2, 1, false)] := ⟨_, Tryz.runUnderlying62, rfl, fun i off sz ag h => match i, h with
  | 0, h => by simp only [List.getElem?_cons_zero, List.getElem?_cons_succ, Option.some.injEq, Prod.mk.injEq] at h; obtain ⟨rfl, rfl, rfl⟩ := h; exact ⟨_, rfl, rfl, Tryz.sizeOf5, Tryz.isAgg5⟩
  | 1, h => by simp only [List.getElem?_cons_zero, List.getElem?_cons_succ, Option.some.injEq, Prod.mk.injEq] at h; obtain ⟨rfl, rfl, rfl⟩ := h; exact ⟨_, rfl, rfl, Tryz.sizeOf23, Tryz.isAgg23⟩
  | 2, h => by simp only [List.getElem?_cons_zero, List.getElem?_cons_succ, Option.some.injEq, Prod.mk.injEq] at h; obtain ⟨rfl, rfl, rfl⟩ := h; exact ⟨_, rfl, rfl, Tryz.sizeOf3, Tryz.isAgg3⟩
  | (i + 3), h => by simp at h⟩
instance ty63 : Ty Tryz.prog 63 false 1 [.nilFunc] 8 := ⟨⟨Tryz.t63, _, by kernel_rfl, rfl, rfl, rfl, rfl⟩, Tryz.isAgg63, Tryz.sizeOf63, ⟨_, Tryz.zeroValue63, rfl⟩, ⟨_, Tryz.typeInfo63, rfl⟩⟩
instance hu63 : HasUnd Tryz.prog 63 := ⟨_, Tryz.runUnderlying63⟩
instance ty64 : Ty Tryz.prog 64 false 1 [.nilFunc] 8 := ⟨⟨Tryz.t64, _, by kernel_rfl, rfl, rfl, rfl, rfl⟩, Tryz.isAgg64, Tryz.sizeOf64, ⟨_, Tryz.zeroValue64, rfl⟩, ⟨_, Tryz.typeInfo64, rfl⟩⟩
instance hu64 : HasUnd Tryz.prog 64 := ⟨_, Tryz.runUnderlying64⟩
instance ty65 : Ty Tryz.prog 65 true 6 [.int .i64 0, .slice none 0 0, .slice none 0 0, .int .i64 0, .bool false, .int .i64 0] 80 := ⟨⟨Tryz.t65, _, by kernel_rfl, rfl, rfl, rfl, rfl⟩, Tryz.isAgg65, Tryz.sizeOf65, ⟨_, Tryz.zeroValue65, rfl⟩, ⟨_, Tryz.typeInfo65, rfl⟩⟩
instance hu65 : HasUnd Tryz.prog 65 := ⟨_, Tryz.runUnderlying65⟩
instance ss65 : StTy Tryz.prog 65 [(0, 1, false), (1, 1, false), (2, 1, false), (3, 1, false), (4, 1, false), (5, 1, false)] := ⟨_, Tryz.runUnderlying65, rfl, fun i off sz ag h => match i, h with
  | 0, h => by simp only [List.getElem?_cons_zero, List.getElem?_cons_succ, Option.some.injEq, Prod.mk.injEq] at h; obtain ⟨rfl, rfl, rfl⟩ := h; exact ⟨_, rfl, rfl, Tryz.sizeOf3, Tryz.isAgg3⟩
  | 1, h => by simp only [List.getElem?_cons_zero, List.getElem?_cons_succ, Option.some.injEq, Prod.mk.injEq] at h; obtain ⟨rfl, rfl, rfl⟩ := h; exact ⟨_, rfl, rfl, Tryz.sizeOf31, Tryz.isAgg31⟩
  | 2, h => by simp only [List.getElem?_cons_zero, List.getElem?_cons_succ, Option.some.injEq, Prod.mk.injEq] at h; obtain ⟨rfl, rfl, rfl⟩ := h; exact ⟨_, rfl, rfl, Tryz.sizeOf23, Tryz.isAgg23⟩
  | 3, h => by simp only [List.getElem?_cons_zero, List.getElem?_cons_succ, Option.some.injEq, Prod.mk.injEq] at h; obtain ⟨rfl, rfl, rfl⟩ := h; exact ⟨_, rfl, rfl, Tryz.sizeOf3, Tryz.isAgg3⟩
  | 4, h => by simp only [List.getElem?_cons_zero, List.getElem?_cons_succ, Option.some.injEq, Prod.mk.injEq] at h; obtain ⟨rfl, rfl, rfl⟩ := h; exact ⟨_, rfl, rfl, Tryz.sizeOf4, Tryz.isAgg4⟩
  | 5, h => by simp only [List.getElem?_cons_zero, List.getElem?_cons_succ, Option.some.injEq, Prod.mk.injEq] at h; obtain ⟨rfl, rfl, rfl⟩ := h; exact ⟨_, rfl, rfl, Tryz.sizeOf3, Tryz.isAgg3⟩
  | (i + 6), h => by simp at h⟩
instance ty66 : Ty Tryz.prog 66 true 6 [.int .i64 0, .slice none 0 0, .slice none 0 0, .int .i64 0, .bool false, .int .i64 0] 80 := ⟨⟨Tryz.t66, _, by kernel_rfl, rfl, rfl, rfl, rfl⟩, Tryz.isAgg66, Tryz.sizeOf66, ⟨_, Tryz.zeroValue66, rfl⟩, ⟨_, Tryz.typeInfo66, rfl⟩⟩
instance hu66 : HasUnd Tryz.prog 66 := ⟨_, Tryz.runUnderlying66⟩
instance ss66 : StTy Tryz.prog 66 [(0, 1, false), (1, 1, false), (2, 1, false), (3, 1, false), (4, 1, false), (5, 1, false)] := ⟨_, Tryz.runUnderlying66, rfl, fun i off sz ag h => match i, h with
  | 0, h => by simp only [List.getElem?_cons_zero, List.getElem?_cons_succ, Option.some.injEq, Prod.mk.injEq] at h; obtain ⟨rfl, rfl, rfl⟩ := h; exact ⟨_, rfl, rfl, Tryz.sizeOf3, Tryz.isAgg3⟩
  | 1, h => by simp only [List.getElem?_cons_zero, List.getElem?_cons_succ, Option.some.injEq, Prod.mk.injEq] at h; obtain ⟨rfl, rfl, rfl⟩ := h; exact ⟨_, rfl, rfl, Tryz.sizeOf31, Tryz.isAgg31⟩
  | 2, h => by simp only [List.getElem?_cons_zero, List.getElem?_cons_succ, Option.some.injEq, Prod.mk.injEq] at h; obtain ⟨rfl, rfl, rfl⟩ := h; exact ⟨_, rfl, rfl, Tryz.sizeOf23, Tryz.isAgg23⟩
  | 3, h => by simp only [List.getElem?_cons_zero, List.getElem?_cons_succ, Option.some.injEq, Prod.mk.injEq] at h; obtain ⟨rfl, rfl, rfl⟩ := h; exact ⟨_, rfl, rfl, Tryz.sizeOf3, Tryz.isAgg3⟩
  | 4, h => by simp only [List.getElem?_cons_zero, List.getElem?_cons_succ, Option.some.injEq, Prod.mk.injEq] at h; obtain ⟨rfl, rfl, rfl⟩ := h; exact ⟨_, rfl, rfl, Tryz.sizeOf4, Tryz.isAgg4⟩
  | 5, h => by simp only [List.getElem?_cons_zero, List.getElem?_cons_succ, Option.some.injEq, Prod.mk.injEq] at h; obtain ⟨rfl, rfl, rfl⟩ := h; exact ⟨_, rfl, rfl, Tryz.sizeOf3, Tryz.isAgg3⟩
  | (i + 6), h => by simp at h⟩
instance ty67 : Ty Tryz.prog 67 false 1 [.nilFunc] 8 := ⟨⟨Tryz.t67, _, by kernel_rfl, rfl, rfl, rfl, rfl⟩, Tryz.isAgg67, Tryz.sizeOf67, ⟨_, Tryz.zeroValue67, rfl⟩, ⟨_, Tryz.typeInfo67, rfl⟩⟩
instance hu67 : HasUnd Tryz.prog 67 := ⟨_, Tryz.runUnderlying67⟩
instance ty68 : Ty Tryz.prog 68 false 1 [.nilFunc] 8 := ⟨⟨Tryz.t68, _, by kernel_rfl, rfl, rfl, rfl, rfl⟩, Tryz.isAgg68, Tryz.sizeOf68, ⟨_, Tryz.zeroValue68, rfl⟩, ⟨_, Tryz.typeInfo68, rfl⟩⟩
instance hu68 : HasUnd Tryz.prog 68 := ⟨_, Tryz.runUnderlying68⟩
instance ty69 : Ty Tryz.prog 69 false 1 [.nilFunc] 8 := ⟨⟨Tryz.t69, _, by kernel_rfl, rfl, rfl, rfl, rfl⟩, Tryz.isAgg69, Tryz.sizeOf69, ⟨_, Tryz.zeroValue69, rfl⟩, ⟨_, Tryz.typeInfo69, rfl⟩⟩
instance hu69 : HasUnd Tryz.prog 69 := ⟨_, Tryz.runUnderlying69⟩
instance ty70 : Ty Tryz.prog 70 false 1 [.nilFunc] 8 := ⟨⟨Tryz.t70, _, by kernel_rfl, rfl, rfl, rfl, rfl⟩, Tryz.isAgg70, Tryz.sizeOf70, ⟨_, Tryz.zeroValue70, rfl⟩, ⟨_, Tryz.typeInfo70, rfl⟩⟩
instance hu70 : HasUnd Tryz.prog 70 := ⟨_, Tryz.runUnderlying70⟩
instance ty71 : Ty Tryz.prog 71 false 1 [.nilFunc] 8 := ⟨⟨Tryz.t71, _, by kernel_rfl, rfl, rfl, rfl, rfl⟩, Tryz.isAgg71, Tryz.sizeOf71, ⟨_, Tryz.zeroValue71, rfl⟩, ⟨_, Tryz.typeInfo71, rfl⟩⟩
instance hu71 : HasUnd Tryz.prog 71 := ⟨_, Tryz.runUnderlying71⟩
instance ty72 : Ty Tryz.prog 72 false 1 [.nilFunc] 8 := ⟨⟨Tryz.t72, _, by kernel_rfl, rfl, rfl, rfl, rfl⟩, Tryz.isAgg72, Tryz.sizeOf72, ⟨_, Tryz.zeroValue72, rfl⟩, ⟨_, Tryz.typeInfo72, rfl⟩⟩
instance hu72 : HasUnd Tryz.prog 72 := ⟨_, Tryz.runUnderlying72⟩
instance ty73 : Ty Tryz.prog 73 false 1 [.nilFunc] 8 := ⟨⟨Tryz.t73, _, by kernel_rfl, rfl, rfl, rfl, rfl⟩, Tryz.isAgg73, Tryz.sizeOf73, ⟨_, Tryz.zeroValue73, rfl⟩, ⟨_, Tryz.typeInfo73, rfl⟩⟩
instance hu73 : HasUnd Tryz.prog 73 := ⟨_, Tryz.runUnderlying73⟩
instance ty74 : Ty Tryz.prog 74 false 1 [.nilFunc] 8 := ⟨⟨Tryz.t74, _, by kernel_rfl, rfl, rfl, rfl, rfl⟩, Tryz.isAgg74, Tryz.sizeOf74, ⟨_, Tryz.zeroValue74, rfl⟩, ⟨_, Tryz.typeInfo74, rfl⟩⟩
instance hu74 : HasUnd Tryz.prog 74 := ⟨_, Tryz.runUnderlying74⟩
instance ty75 : Ty Tryz.prog 75 false 1 [.nilFunc] 8 := ⟨⟨Tryz.t75, _, by kernel_rfl, rfl, rfl, rfl, rfl⟩, Tryz.isAgg75, Tryz.sizeOf75, ⟨_, Tryz.zeroValue75, rfl⟩, ⟨_, Tryz.typeInfo75, rfl⟩⟩
instance hu75 : HasUnd Tryz.prog 75 := ⟨_, Tryz.runUnderlying75⟩
instance ty76 : Ty Tryz.prog 76 false 1 [.nilFunc] 8 := ⟨⟨Tryz.t76, _, by kernel_rfl, rfl, rfl, rfl, rfl⟩, Tryz.isAgg76, Tryz.sizeOf76, ⟨_, Tryz.zeroValue76, rfl⟩, ⟨_, Tryz.typeInfo76, rfl⟩⟩
instance hu76 : HasUnd Tryz.prog 76 := ⟨_, Tryz.runUnderlying76⟩
instance ty77 : Ty Tryz.prog 77 true 2 [.int .i64 0, .bool false] 16 := ⟨⟨Tryz.t77, _, by kernel_rfl, rfl, rfl, rfl, rfl⟩, Tryz.isAgg77, Tryz.sizeOf77, ⟨_, Tryz.zeroValue77, rfl⟩, ⟨_, Tryz.typeInfo77, rfl⟩⟩
instance hu77 : HasUnd Tryz.prog 77 := ⟨_, Tryz.runUnderlying77⟩
instance ss77 : StTy Tryz.prog 77 [(0, 1, false), (1, 1, false)] := ⟨_, Tryz.runUnderlying77, rfl, fun i off sz ag h => match i, h with
  | 0, h => by simp only [List.getElem?_cons_zero, List.getElem?_cons_succ, Option.some.injEq, Prod.mk.injEq] at h; obtain ⟨rfl, rfl, rfl⟩ := h; exact ⟨_, rfl, rfl, Tryz.sizeOf3, Tryz.isAgg3⟩
  | 1, h => by simp only [List.getElem?_cons_zero, List.getElem?_cons_succ, Option.some.injEq, Prod.mk.injEq] at h; obtain ⟨rfl, rfl, rfl⟩ := h; exact ⟨_, rfl, rfl, Tryz.sizeOf4, Tryz.isAgg4⟩
  | (i + 2), h => by simp at h⟩
instance ty78 : Ty Tryz.prog 78 true 2 [.int .i64 0, .bool false] 16 := ⟨⟨Tryz.t78, _, by kernel_rfl, rfl, rfl, rfl, rfl⟩, Tryz.isAgg78, Tryz.sizeOf78, ⟨_, Tryz.zeroValue78, rfl⟩, ⟨_, Tryz.typeInfo78, rfl⟩⟩
instance hu78 : HasUnd Tryz.prog 78 := ⟨_, Tryz.runUnderlying78⟩
instance ss78 : StTy Tryz.prog 78 [(0, 1, false), (1, 1, false)] := ⟨_, Tryz.runUnderlying78, rfl, fun i off sz ag h => match i, h with
  | 0, h => by simp only [List.getElem?_cons_zero, List.getElem?_cons_succ, Option.some.injEq, Prod.mk.injEq] at h; obtain ⟨rfl, rfl, rfl⟩ := h; exact ⟨_, rfl, rfl, Tryz.sizeOf3, Tryz.isAgg3⟩
  | 1, h => by simp only [List.getElem?_cons_zero, List.getElem?_cons_succ, Option.some.injEq, Prod.mk.injEq] at h; obtain ⟨rfl, rfl, rfl⟩ := h; exact ⟨_, rfl, rfl, Tryz.sizeOf4, Tryz.isAgg4⟩
  | (i + 2), h => by simp at h⟩
instance ty79 : Ty Tryz.prog 79 false 1 [.map none] 8 := ⟨⟨Tryz.t79, _, by kernel_rfl, rfl, rfl, rfl, rfl⟩, Tryz.isAgg79, Tryz.sizeOf79, ⟨_, Tryz.zeroValue79, rfl⟩, ⟨_, Tryz.typeInfo79, rfl⟩⟩
instance hu79 : HasUnd Tryz.prog 79 := ⟨_, Tryz.runUnderlying79⟩
instance mt79 : MapTy Tryz.prog 79 9 82 := ⟨Tryz.runUnderlying79, Tryz.underlying79⟩
instance ty80 : Ty Tryz.prog 80 true 4 [.int .i64 0, .bool false, .int .i64 0, .map none] 32 := ⟨⟨Tryz.t80, _, by kernel_rfl, rfl, rfl, rfl, rfl⟩, Tryz.isAgg80, Tryz.sizeOf80, ⟨_, Tryz.zeroValue80, rfl⟩, ⟨_, Tryz.typeInfo80, rfl⟩⟩
instance hu80 : HasUnd Tryz.prog 80 := ⟨_, Tryz.runUnderlying80⟩
instance ss80 : StTy Tryz.prog 80 [(0, 2, true), (2, 1, false), (3, 1, false)] := ⟨_, Tryz.runUnderlying80, rfl, fun i off sz ag h => match i, h with
  | 0, h => by simp only [List.getElem?_cons_zero, List.getElem?_cons_succ, Option.some.injEq, Prod.mk.injEq] at h; obtain ⟨rfl, rfl, rfl⟩ := h; exact ⟨_, rfl, rfl, Tryz.sizeOf78, Tryz.isAgg78⟩
  | 1, h => by simp only [List.getElem?_cons_zero, List.getElem?_cons_succ, Option.some.injEq, Prod.mk.injEq] at h; obtain ⟨rfl, rfl, rfl⟩ := h; exact ⟨_, rfl, rfl, Tryz.sizeOf3, Tryz.isAgg3⟩
  | 2, h => by simp only [List.getElem?_cons_zero, List.getElem?_cons_succ, Option.some.injEq, Prod.mk.injEq] at h; obtain ⟨rfl, rfl, rfl⟩ := h; exact ⟨_, rfl, rfl, Tryz.sizeOf79, Tryz.isAgg79⟩
  | (i + 3), h => by simp at h⟩
instance ty81 : Ty Tryz.prog 81 true 4 [.int .i64 0, .bool false, .int .i64 0, .map none] 32 := ⟨⟨Tryz.t81, _, by kernel_rfl, rfl, rfl, rfl, rfl⟩, Tryz.isAgg81, Tryz.sizeOf81, ⟨_, Tryz.zeroValue81, rfl⟩, ⟨_, Tryz.typeInfo81, rfl⟩⟩
instance hu81 : HasUnd Tryz.prog 81 := ⟨_, Tryz.runUnderlying81⟩
instance ss81 : StTy Tryz.prog 81 [(0, 2, true), (2, 1, false), (3, 1, false)] := ⟨_, Tryz.runUnderlying81, rfl, fun i off sz ag h => match i, h with
  | 0, h => by simp only [List.getElem?_cons_zero, List.getElem?_cons_succ, Option.some.injEq, Prod.mk.injEq] at h; obtain ⟨rfl, rfl, rfl⟩ := h; exact ⟨_, rfl, rfl, Tryz.sizeOf78, Tryz.isAgg78⟩
  | 1, h => by simp only [List.getElem?_cons_zero, List.getElem?_cons_succ, Option.some.injEq, Prod.mk.injEq] at h; obtain ⟨rfl, rfl, rfl⟩ := h; exact ⟨_, rfl, rfl, Tryz.sizeOf3, Tryz.isAgg3⟩
  | 2, h => by simp only [List.getElem?_cons_zero, List.getElem?_cons_succ, Option.some.injEq, Prod.mk.injEq] at h; obtain ⟨rfl, rfl, rfl⟩ := h; exact ⟨_, rfl, rfl, Tryz.sizeOf79, Tryz.isAgg79⟩
  | (i + 3), h => by simp at h⟩
instance ty82 : Ty Tryz.prog 82 false 1 [.pointer none] 8 := ⟨⟨Tryz.t82, _, by kernel_rfl, rfl, rfl, rfl, rfl⟩, Tryz.isAgg82, Tryz.sizeOf82, ⟨_, Tryz.zeroValue82, rfl⟩, ⟨_, Tryz.typeInfo82, rfl⟩⟩
instance hu82 : HasUnd Tryz.prog 82 := ⟨_, Tryz.runUnderlying82⟩
instance pt82 : PtrTy Tryz.prog 82 84 := ⟨Tryz.runUnderlying82, Tryz.underlying82⟩
instance ty83 : Ty Tryz.prog 83 true 2 [.slice none 0 0, .int .i64 0] 32 := ⟨⟨Tryz.t83, _, by kernel_rfl, rfl, rfl, rfl, rfl⟩, Tryz.isAgg83, Tryz.sizeOf83, ⟨_, Tryz.zeroValue83, rfl⟩, ⟨_, Tryz.typeInfo83, rfl⟩⟩
instance hu83 : HasUnd Tryz.prog 83 := ⟨_, Tryz.runUnderlying83⟩
instance ss83 : StTy Tryz.prog 83 [(0, 1, false), (1, 1, false)] := ⟨_, Tryz.runUnderlying83, rfl, fun i off sz ag h => match i, h with
  | 0, h => by simp only [List.getElem?_cons_zero, List.getElem?_cons_succ, Option.some.injEq, Prod.mk.injEq] at h; obtain ⟨rfl, rfl, rfl⟩ := h; exact ⟨_, rfl, rfl, Tryz.sizeOf31, Tryz.isAgg31⟩
  | 1, h => by simp only [List.getElem?_cons_zero, List.getElem?_cons_succ, Option.some.injEq, Prod.mk.injEq] at h; obtain ⟨rfl, rfl, rfl⟩ := h; exact ⟨_, rfl, rfl, Tryz.sizeOf3, Tryz.isAgg3⟩
  | (i + 2), h => by simp at h⟩
instance ty84 : Ty Tryz.prog 84 true 2 [.slice none 0 0, .int .i64 0] 32 := ⟨⟨Tryz.t84, _, by kernel_rfl, rfl, rfl, rfl, rfl⟩, Tryz.isAgg84, Tryz.sizeOf84, ⟨_, Tryz.zeroValue84, rfl⟩, ⟨_, Tryz.typeInfo84, rfl⟩⟩
instance hu84 : HasUnd Tryz.prog 84 := ⟨_, Tryz.runUnderlying84⟩
instance ss84 : StTy Tryz.prog 84 [(0, 1, false), (1, 1, false)] := ⟨_, Tryz.runUnderlying84, rfl, fun i off sz ag h => match i, h with
  | 0, h => by simp only [List.getElem?_cons_zero, List.getElem?_cons_succ, Option.some.injEq, Prod.mk.injEq] at h; obtain ⟨rfl, rfl, rfl⟩ := h; exact ⟨_, rfl, rfl, Tryz.sizeOf31, Tryz.isAgg31⟩
  | 1, h => by simp only [List.getElem?_cons_zero, List.getElem?_cons_succ, Option.some.injEq, Prod.mk.injEq] at h; obtain ⟨rfl, rfl, rfl⟩ := h; exact ⟨_, rfl, rfl, Tryz.sizeOf3, Tryz.isAgg3⟩
  | (i + 2), h => by simp at h⟩
instance ty85 : Ty Tryz.prog 85 false 1 [.nilFunc] 8 := ⟨⟨Tryz.t85, _, by kernel_rfl, rfl, rfl, rfl, rfl⟩, Tryz.isAgg85, Tryz.sizeOf85, ⟨_, Tryz.zeroValue85, rfl⟩, ⟨_, Tryz.typeInfo85, rfl⟩⟩
instance hu85 : HasUnd Tryz.prog 85 := ⟨_, Tryz.runUnderlying85⟩
instance ty86 : Ty Tryz.prog 86 true 4 [.pointer none, .int .i64 0, .int .i64 0, .bool false] 32 := ⟨⟨Tryz.t86, _, by kernel_rfl, rfl, rfl, rfl, rfl⟩, Tryz.isAgg86, Tryz.sizeOf86, ⟨_, Tryz.zeroValue86, rfl⟩, ⟨_, Tryz.typeInfo86, rfl⟩⟩
instance hu86 : HasUnd Tryz.prog 86 := ⟨_, Tryz.runUnderlying86⟩
instance ss86 : StTy Tryz.prog 86 [(0, 1, false), (1, 1, false), (2, 1, false), (3, 1, false)] := ⟨_, Tryz.runUnderlying86, rfl, fun i off sz ag h => match i, h with
  | 0, h => by simp only [List.getElem?_cons_zero, List.getElem?_cons_succ, Option.some.injEq, Prod.mk.injEq] at h; obtain ⟨rfl, rfl, rfl⟩ := h; exact ⟨_, rfl, rfl, Tryz.sizeOf26, Tryz.isAgg26⟩
  | 1, h => by simp only [List.getElem?_cons_zero, List.getElem?_cons_succ, Option.some.injEq, Prod.mk.injEq] at h; obtain ⟨rfl, rfl, rfl⟩ := h; exact ⟨_, rfl, rfl, Tryz.sizeOf3, Tryz.isAgg3⟩
  | 2, h => by simp only [List.getElem?_cons_zero, List.getElem?_cons_succ, Option.some.injEq, Prod.mk.injEq] at h; obtain ⟨rfl, rfl, rfl⟩ := h; exact ⟨_, rfl, rfl, Tryz.sizeOf3, Tryz.isAgg3⟩
  | 3, h => by simp only [List.getElem?_cons_zero, List.getElem?_cons_succ, Option.some.injEq, Prod.mk.injEq] at h; obtain ⟨rfl, rfl, rfl⟩ := h; exact ⟨_, rfl, rfl, Tryz.sizeOf4, Tryz.isAgg4⟩
  | (i + 4), h => by simp at h⟩
instance ty87 : Ty Tryz.prog 87 true 4 [.pointer none, .int .i64 0, .int .i64 0, .bool false] 32 := ⟨⟨Tryz.t87, _, by kernel_rfl, rfl, rfl, rfl, rfl⟩, Tryz.isAgg87, Tryz.sizeOf87, ⟨_, Tryz.zeroValue87, rfl⟩, ⟨_, Tryz.typeInfo87, rfl⟩⟩
instance hu87 : HasUnd Tryz.prog 87 := ⟨_, Tryz.runUnderlying87⟩
instance ss87 : StTy Tryz.prog 87 [(0, 1, false), (1, 1, false), (2, 1, false), (3, 1, false)] := ⟨_, Tryz.runUnderlying87, rfl, fun i off sz ag h => match i, h with
  | 0, h => by simp only [List.getElem?_cons_zero, List.getElem?_cons_succ, Option.some.injEq, Prod.mk.injEq] at h; obtain ⟨rfl, rfl, rfl⟩ := h; exact ⟨_, rfl, rfl, Tryz.sizeOf26, Tryz.isAgg26⟩
  | 1, h => by simp only [List.getElem?_cons_zero, List.getElem?_cons_succ, Option.some.injEq, Prod.mk.injEq] at h; obtain ⟨rfl, rfl, rfl⟩ := h; exact ⟨_, rfl, rfl, Tryz.sizeOf3, Tryz.isAgg3⟩
  | 2, h => by simp only [List.getElem?_cons_zero, List.getElem?_cons_succ, Option.some.injEq, Prod.mk.injEq] at h; obtain ⟨rfl, rfl, rfl⟩ := h; exact ⟨_, rfl, rfl, Tryz.sizeOf3, Tryz.isAgg3⟩
  | 3, h => by simp only [List.getElem?_cons_zero, List.getElem?_cons_succ, Option.some.injEq, Prod.mk.injEq] at h; obtain ⟨rfl, rfl, rfl⟩ := h; exact ⟨_, rfl, rfl, Tryz.sizeOf4, Tryz.isAgg4⟩
  | (i + 4), h => by simp at h⟩
instance ty88 : Ty Tryz.prog 88 false 1 [.nilFunc] 8 := ⟨⟨Tryz.t88, _, by kernel_rfl, rfl, rfl, rfl, rfl⟩, Tryz.isAgg88, Tryz.sizeOf88, ⟨_, Tryz.zeroValue88, rfl⟩, ⟨_, Tryz.typeInfo88, rfl⟩⟩
instance hu88 : HasUnd Tryz.prog 88 := ⟨_, Tryz.runUnderlying88⟩
instance ty89 : Ty Tryz.prog 89 false 1 [.nilFunc] 8 := ⟨⟨Tryz.t89, _, by kernel_rfl, rfl, rfl, rfl, rfl⟩, Tryz.isAgg89, Tryz.sizeOf89, ⟨_, Tryz.zeroValue89, rfl⟩, ⟨_, Tryz.typeInfo89, rfl⟩⟩
instance hu89 : HasUnd Tryz.prog 89 := ⟨_, Tryz.runUnderlying89⟩
instance hu90 : HasUnd Tryz.prog 90 := ⟨_, Tryz.runUnderlying90⟩
instance ty91 : Ty Tryz.prog 91 false 1 [.nilFunc] 8 := ⟨⟨Tryz.t91, _, by kernel_rfl, rfl, rfl, rfl, rfl⟩, Tryz.isAgg91, Tryz.sizeOf91, ⟨_, Tryz.zeroValue91, rfl⟩, ⟨_, Tryz.typeInfo91, rfl⟩⟩
instance hu91 : HasUnd Tryz.prog 91 := ⟨_, Tryz.runUnderlying91⟩
instance hu92 : HasUnd Tryz.prog 92 := ⟨_, Tryz.runUnderlying92⟩
instance ty93 : Ty Tryz.prog 93 false 1 [.nilFunc] 8 := ⟨⟨Tryz.t93, _, by kernel_rfl, rfl, rfl, rfl, rfl⟩, Tryz.isAgg93, Tryz.sizeOf93, ⟨_, Tryz.zeroValue93, rfl⟩, ⟨_, Tryz.typeInfo93, rfl⟩⟩
instance hu93 : HasUnd Tryz.prog 93 := ⟨_, Tryz.runUnderlying93⟩
instance ty94 : Ty Tryz.prog 94 false 1 [.nilFunc] 8 := ⟨⟨Tryz.t94, _, by kernel_rfl, rfl, rfl, rfl, rfl⟩, Tryz.isAgg94, Tryz.sizeOf94, ⟨_, Tryz.zeroValue94, rfl⟩, ⟨_, Tryz.typeInfo94, rfl⟩⟩
instance hu94 : HasUnd Tryz.prog 94 := ⟨_, Tryz.runUnderlying94⟩
instance ty95 : Ty Tryz.prog 95 false 1 [.nilFunc] 8 := ⟨⟨Tryz.t95, _, by kernel_rfl, rfl, rfl, rfl, rfl⟩, Tryz.isAgg95, Tryz.sizeOf95, ⟨_, Tryz.zeroValue95, rfl⟩, ⟨_, Tryz.typeInfo95, rfl⟩⟩
instance hu95 : HasUnd Tryz.prog 95 := ⟨_, Tryz.runUnderlying95⟩
instance ty96 : Ty Tryz.prog 96 false 1 [.nilFunc] 8 := ⟨⟨Tryz.t96, _, by kernel_rfl, rfl, rfl, rfl, rfl⟩, Tryz.isAgg96, Tryz.sizeOf96, ⟨_, Tryz.zeroValue96, rfl⟩, ⟨_, Tryz.typeInfo96, rfl⟩⟩
instance hu96 : HasUnd Tryz.prog 96 := ⟨_, Tryz.runUnderlying96⟩
instance ty97 : Ty Tryz.prog 97 false 1 [.nilFunc] 8 := ⟨⟨Tryz.t97, _, by kernel_rfl, rfl, rfl, rfl, rfl⟩, Tryz.isAgg97, Tryz.sizeOf97, ⟨_, Tryz.zeroValue97, rfl⟩, ⟨_, Tryz.typeInfo97, rfl⟩⟩
instance hu97 : HasUnd Tryz.prog 97 := ⟨_, Tryz.runUnderlying97⟩
instance ty98 : Ty Tryz.prog 98 false 1 [.nilFunc] 8 := ⟨⟨Tryz.t98, _, by kernel_rfl, rfl, rfl, rfl, rfl⟩, Tryz.isAgg98, Tryz.sizeOf98, ⟨_, Tryz.zeroValue98, rfl⟩, ⟨_, Tryz.typeInfo98, rfl⟩⟩
instance hu98 : HasUnd Tryz.prog 98 := ⟨_, Tryz.runUnderlying98⟩
instance hu99 : HasUnd Tryz.prog 99 := ⟨_, Tryz.runUnderlying99⟩
instance ty100 : Ty Tryz.prog 100 false 1 [.nilFunc] 8 := ⟨⟨Tryz.t100, _, by kernel_rfl, rfl, rfl, rfl, rfl⟩, Tryz.isAgg100, Tryz.sizeOf100, ⟨_, Tryz.zeroValue100, rfl⟩, ⟨_, Tryz.typeInfo100, rfl⟩⟩
instance hu100 : HasUnd Tryz.prog 100 := ⟨_, Tryz.runUnderlying100⟩
instance ty101 : Ty Tryz.prog 101 false 1 [.nilFunc] 8 := ⟨⟨Tryz.t101, _, by kernel_rfl, rfl, rfl, rfl, rfl⟩, Tryz.isAgg101, Tryz.sizeOf101, ⟨_, Tryz.zeroValue101, rfl⟩, ⟨_, Tryz.typeInfo101, rfl⟩⟩
instance hu101 : HasUnd Tryz.prog 101 := ⟨_, Tryz.runUnderlying101⟩
instance ty102 : Ty Tryz.prog 102 false 1 [.nilFunc] 8 := ⟨⟨Tryz.t102, _, by kernel_rfl, rfl, rfl, rfl, rfl⟩, Tryz.isAgg102, Tryz.sizeOf102, ⟨_, Tryz.zeroValue102, rfl⟩, ⟨_, Tryz.typeInfo102, rfl⟩⟩
instance hu102 : HasUnd Tryz.prog 102 := ⟨_, Tryz.runUnderlying102⟩
instance ty103 : Ty Tryz.prog 103 false 1 [.nilFunc] 8 := ⟨⟨Tryz.t103, _, by kernel_rfl, rfl, rfl, rfl, rfl⟩, Tryz.isAgg103, Tryz.sizeOf103, ⟨_, Tryz.zeroValue103, rfl⟩, ⟨_, Tryz.typeInfo103, rfl⟩⟩
instance hu103 : HasUnd Tryz.prog 103 := ⟨_, Tryz.runUnderlying103⟩
instance ty104 : Ty Tryz.prog 104 false 1 [.nilFunc] 8 := ⟨⟨Tryz.t104, _, by kernel_rfl, rfl, rfl, rfl, rfl⟩, Tryz.isAgg104, Tryz.sizeOf104, ⟨_, Tryz.zeroValue104, rfl⟩, ⟨_, Tryz.typeInfo104, rfl⟩⟩
instance hu104 : HasUnd Tryz.prog 104 := ⟨_, Tryz.runUnderlying104⟩
instance ty105 : Ty Tryz.prog 105 false 1 [.nilFunc] 8 := ⟨⟨Tryz.t105, _, by kernel_rfl, rfl, rfl, rfl, rfl⟩, Tryz.isAgg105, Tryz.sizeOf105, ⟨_, Tryz.zeroValue105, rfl⟩, ⟨_, Tryz.typeInfo105, rfl⟩⟩
instance hu105 : HasUnd Tryz.prog 105 := ⟨_, Tryz.runUnderlying105⟩
instance ty106 : Ty Tryz.prog 106 false 1 [.nilFunc] 8 := ⟨⟨Tryz.t106, _, by kernel_rfl, rfl, rfl, rfl, rfl⟩, Tryz.isAgg106, Tryz.sizeOf106, ⟨_, Tryz.zeroValue106, rfl⟩, ⟨_, Tryz.typeInfo106, rfl⟩⟩
instance hu106 : HasUnd Tryz.prog 106 := ⟨_, Tryz.runUnderlying106⟩
instance ty107 : Ty Tryz.prog 107 false 1 [.nilFunc] 8 := ⟨⟨Tryz.t107, _, by kernel_rfl, rfl, rfl, rfl, rfl⟩, Tryz.isAgg107, Tryz.sizeOf107, ⟨_, Tryz.zeroValue107, rfl⟩, ⟨_, Tryz.typeInfo107, rfl⟩⟩
instance hu107 : HasUnd Tryz.prog 107 := ⟨_, Tryz.runUnderlying107⟩
instance ty108 : Ty Tryz.prog 108 false 1 [.int .u32 0] 4 := ⟨⟨Tryz.t108, _, by kernel_rfl, rfl, rfl, rfl, rfl⟩, Tryz.isAgg108, Tryz.sizeOf108, ⟨_, Tryz.zeroValue108, rfl⟩, ⟨_, Tryz.typeInfo108, rfl⟩⟩
instance hu108 : HasUnd Tryz.prog 108 := ⟨_, Tryz.runUnderlying108⟩
instance it108 : IntTy Tryz.prog 108 .u32 := ⟨Tryz.runUnderlying108, Tryz.underlying108⟩
instance ty109 : Ty Tryz.prog 109 false 1 [.nilFunc] 8 := ⟨⟨Tryz.t109, _, by kernel_rfl, rfl, rfl, rfl, rfl⟩, Tryz.isAgg109, Tryz.sizeOf109, ⟨_, Tryz.zeroValue109, rfl⟩, ⟨_, Tryz.typeInfo109, rfl⟩⟩
instance hu109 : HasUnd Tryz.prog 109 := ⟨_, Tryz.runUnderlying109⟩
instance ty110 : Ty Tryz.prog 110 false 1 [.nilFunc] 8 := ⟨⟨Tryz.t110, _, by kernel_rfl, rfl, rfl, rfl, rfl⟩, Tryz.isAgg110, Tryz.sizeOf110, ⟨_, Tryz.zeroValue110, rfl⟩, ⟨_, Tryz.typeInfo110, rfl⟩⟩
instance hu110 : HasUnd Tryz.prog 110 := ⟨_, Tryz.runUnderlying110⟩
instance hu111 : HasUnd Tryz.prog 111 := ⟨_, Tryz.runUnderlying111⟩
instance ty112 : Ty Tryz.prog 112 false 1 [.nilFunc] 8 := ⟨⟨Tryz.t112, _, by kernel_rfl, rfl, rfl, rfl, rfl⟩, Tryz.isAgg112, Tryz.sizeOf112, ⟨_, Tryz.zeroValue112, rfl⟩, ⟨_, Tryz.typeInfo112, rfl⟩⟩
instance hu112 : HasUnd Tryz.prog 112 := ⟨_, Tryz.runUnderlying112⟩
instance hu113 : HasUnd Tryz.prog 113 := ⟨_, Tryz.runUnderlying113⟩
instance ty114 : Ty Tryz.prog 114 false 1 [.nilFunc] 8 := ⟨⟨Tryz.t114, _, by kernel_rfl, rfl, rfl, rfl, rfl⟩, Tryz.isAgg114, Tryz.sizeOf114, ⟨_, Tryz.zeroValue114, rfl⟩, ⟨_, Tryz.typeInfo114, rfl⟩⟩
instance hu114 : HasUnd Tryz.prog 114 := ⟨_, Tryz.runUnderlying114⟩
instance ty115 : Ty Tryz.prog 115 false 1 [.nilFunc] 8 := ⟨⟨Tryz.t115, _, by kernel_rfl, rfl, rfl, rfl, rfl⟩, Tryz.isAgg115, Tryz.sizeOf115, ⟨_, Tryz.zeroValue115, rfl⟩, ⟨_, Tryz.typeInfo115, rfl⟩⟩
instance hu115 : HasUnd Tryz.prog 115 := ⟨_, Tryz.runUnderlying115⟩
instance ty116 : Ty Tryz.prog 116 false 1 [.nilFunc] 8 := ⟨⟨Tryz.t116, _, by kernel_rfl, rfl, rfl, rfl, rfl⟩, Tryz.isAgg116, Tryz.sizeOf116, ⟨_, Tryz.zeroValue116, rfl⟩, ⟨_, Tryz.typeInfo116, rfl⟩⟩
instance hu116 : HasUnd Tryz.prog 116 := ⟨_, Tryz.runUnderlying116⟩
instance ty117 : Ty Tryz.prog 117 false 1 [.int .u64 0] 8 := ⟨⟨Tryz.t117, _, by kernel_rfl, rfl, rfl, rfl, rfl⟩, Tryz.isAgg117, Tryz.sizeOf117, ⟨_, Tryz.zeroValue117, rfl⟩, ⟨_, Tryz.typeInfo117, rfl⟩⟩
instance hu117 : HasUnd Tryz.prog 117 := ⟨_, Tryz.runUnderlying117⟩
instance it117 : IntTy Tryz.prog 117 .u64 := ⟨Tryz.runUnderlying117, Tryz.underlying117⟩
instance ty118 : Ty Tryz.prog 118 false 1 [.nilFunc] 8 := ⟨⟨Tryz.t118, _, by kernel_rfl, rfl, rfl, rfl, rfl⟩, Tryz.isAgg118, Tryz.sizeOf118, ⟨_, Tryz.zeroValue118, rfl⟩, ⟨_, Tryz.typeInfo118, rfl⟩⟩
instance hu118 : HasUnd Tryz.prog 118 := ⟨_, Tryz.runUnderlying118⟩
instance ty119 : Ty Tryz.prog 119 false 1 [.nilFunc] 8 := ⟨⟨Tryz.t119, _, by kernel_rfl, rfl, rfl, rfl, rfl⟩, Tryz.isAgg119, Tryz.sizeOf119, ⟨_, Tryz.zeroValue119, rfl⟩, ⟨_, Tryz.typeInfo119, rfl⟩⟩
instance hu119 : HasUnd Tryz.prog 119 := ⟨_, Tryz.runUnderlying119⟩
instance ty120 : Ty Tryz.prog 120 false 1 [.nilFunc] 8 := ⟨⟨Tryz.t120, _, by kernel_rfl, rfl, rfl, rfl, rfl⟩, Tryz.isAgg120, Tryz.sizeOf120, ⟨_, Tryz.zeroValue120, rfl⟩, ⟨_, Tryz.typeInfo120, rfl⟩⟩
instance hu120 : HasUnd Tryz.prog 120 := ⟨_, Tryz.runUnderlying120⟩
instance ty121 : Ty Tryz.prog 121 false 1 [.nilFunc] 8 := ⟨⟨Tryz.t121, _, by kernel_rfl, rfl, rfl, rfl, rfl⟩, Tryz.isAgg121, Tryz.sizeOf121, ⟨_, Tryz.zeroValue121, rfl⟩, ⟨_, Tryz.typeInfo121, rfl⟩⟩
instance hu121 : HasUnd Tryz.prog 121 := ⟨_, Tryz.runUnderlying121⟩
instance ty122 : Ty Tryz.prog 122 false 1 [.nilFunc] 8 := ⟨⟨Tryz.t122, _, by kernel_rfl, rfl, rfl, rfl, rfl⟩, Tryz.isAgg122, Tryz.sizeOf122, ⟨_, Tryz.zeroValue122, rfl⟩, ⟨_, Tryz.typeInfo122, rfl⟩⟩
instance hu122 : HasUnd Tryz.prog 122 := ⟨_, Tryz.runUnderlying122⟩
instance hu123 : HasUnd Tryz.prog 123 := ⟨_, Tryz.runUnderlying123⟩
instance ty124 : Ty Tryz.prog 124 false 1 [.nilFunc] 8 := ⟨⟨Tryz.t124, _, by kernel_rfl, rfl, rfl, rfl, rfl⟩, Tryz.isAgg124, Tryz.sizeOf124, ⟨_, Tryz.zeroValue124, rfl⟩, ⟨_, Tryz.typeInfo124, rfl⟩⟩
instance hu124 : HasUnd Tryz.prog 124 := ⟨_, Tryz.runUnderlying124⟩
instance ty125 : Ty Tryz.prog 125 true 16 [.int .u32 0, .int .u32 0, .int .u32 0, .int .u32 0, .int .u32 0, .int .u32 0, .int .u32 0, .int .u32 0, .int .u32 0, .int .u32 0, .int .u32 0, .int .u32 0, .int .u32 0, .int .u32 0, .int .u32 0, .int .u32 0] 64 := ⟨⟨Tryz.t125, _, by kernel_rfl, rfl, rfl, rfl, rfl⟩, Tryz.isAgg125, Tryz.sizeOf125, ⟨_, Tryz.zeroValue125, rfl⟩, ⟨_, Tryz.typeInfo125, rfl⟩⟩
instance hu125 : HasUnd Tryz.prog 125 := ⟨_, Tryz.runUnderlying125⟩
instance at125 : ArrTy Tryz.prog 125 16 108 := ⟨Tryz.runUnderlying125, Tryz.underlying125⟩
instance ty126 : Ty Tryz.prog 126 false 1 [.pointer none] 8 := ⟨⟨Tryz.t126, _, by kernel_rfl, rfl, rfl, rfl, rfl⟩, Tryz.isAgg126, Tryz.sizeOf126, ⟨_, Tryz.zeroValue126, rfl⟩, ⟨_, Tryz.typeInfo126, rfl⟩⟩
instance hu126 : HasUnd Tryz.prog 126 := ⟨_, Tryz.runUnderlying126⟩
instance pt126 : PtrTy Tryz.prog 126 78 := ⟨Tryz.runUnderlying126, Tryz.underlying126⟩
instance hu127 : HasUnd Tryz.prog 127 := ⟨_, Tryz.runUnderlying127⟩
instance ty128 : Ty Tryz.prog 128 false 1 [.nilFunc] 8 := ⟨⟨Tryz.t128, _, by kernel_rfl, rfl, rfl, rfl, rfl⟩, Tryz.isAgg128, Tryz.sizeOf128, ⟨_, Tryz.zeroValue128, rfl⟩, ⟨_, Tryz.typeInfo128, rfl⟩⟩
instance hu128 : HasUnd Tryz.prog 128 := ⟨_, Tryz.runUnderlying128⟩
instance ty129 : Ty Tryz.prog 129 false 1 [.nilIface] 16 := ⟨⟨Tryz.t129, _, by kernel_rfl, rfl, rfl, rfl, rfl⟩, Tryz.isAgg129, Tryz.sizeOf129, ⟨_, Tryz.zeroValue129, rfl⟩, ⟨_, Tryz.typeInfo129, rfl⟩⟩
instance hu129 : HasUnd Tryz.prog 129 := ⟨_, Tryz.runUnderlying129⟩
instance ty130 : Ty Tryz.prog 130 false 1 [.nilIface] 16 := ⟨⟨Tryz.t130, _, by kernel_rfl, rfl, rfl, rfl, rfl⟩, Tryz.isAgg130, Tryz.sizeOf130, ⟨_, Tryz.zeroValue130, rfl⟩, ⟨_, Tryz.typeInfo130, rfl⟩⟩
instance hu130 : HasUnd Tryz.prog 130 := ⟨_, Tryz.runUnderlying130⟩
instance hu131 : HasUnd Tryz.prog 131 := ⟨_, Tryz.runUnderlying131⟩
instance ty132 : Ty Tryz.prog 132 false 1 [.nilFunc] 8 := ⟨⟨Tryz.t132, _, by kernel_rfl, rfl, rfl, rfl, rfl⟩, Tryz.isAgg132, Tryz.sizeOf132, ⟨_, Tryz.zeroValue132, rfl⟩, ⟨_, Tryz.typeInfo132, rfl⟩⟩
instance hu132 : HasUnd Tryz.prog 132 := ⟨_, Tryz.runUnderlying132⟩
instance ty133 : Ty Tryz.prog 133 false 1 [.nilFunc] 8 := ⟨⟨Tryz.t133, _, by kernel_rfl, rfl, rfl, rfl, rfl⟩, Tryz.isAgg133, Tryz.sizeOf133, ⟨_, Tryz.zeroValue133, rfl⟩, ⟨_, Tryz.typeInfo133, rfl⟩⟩
instance hu133 : HasUnd Tryz.prog 133 := ⟨_, Tryz.runUnderlying133⟩
instance ty134 : Ty Tryz.prog 134 false 1 [.nilFunc] 8 := ⟨⟨Tryz.t134, _, by kernel_rfl, rfl, rfl, rfl, rfl⟩, Tryz.isAgg134, Tryz.sizeOf134, ⟨_, Tryz.zeroValue134, rfl⟩, ⟨_, Tryz.typeInfo134, rfl⟩⟩
instance hu134 : HasUnd Tryz.prog 134 := ⟨_, Tryz.runUnderlying134⟩
instance ty135 : Ty Tryz.prog 135 false 1 [.nilFunc] 8 := ⟨⟨Tryz.t135, _, by kernel_rfl, rfl, rfl, rfl, rfl⟩, Tryz.isAgg135, Tryz.sizeOf135, ⟨_, Tryz.zeroValue135, rfl⟩, ⟨_, Tryz.typeInfo135, rfl⟩⟩
instance hu135 : HasUnd Tryz.prog 135 := ⟨_, Tryz.runUnderlying135⟩
instance ty136 : Ty Tryz.prog 136 false 1 [.nilFunc] 8 := ⟨⟨Tryz.t136, _, by kernel_rfl, rfl, rfl, rfl, rfl⟩, Tryz.isAgg136, Tryz.sizeOf136, ⟨_, Tryz.zeroValue136, rfl⟩, ⟨_, Tryz.typeInfo136, rfl⟩⟩
instance hu136 : HasUnd Tryz.prog 136 := ⟨_, Tryz.runUnderlying136⟩
instance ty137 : Ty Tryz.prog 137 false 1 [.nilFunc] 8 := ⟨⟨Tryz.t137, _, by kernel_rfl, rfl, rfl, rfl, rfl⟩, Tryz.isAgg137, Tryz.sizeOf137, ⟨_, Tryz.zeroValue137, rfl⟩, ⟨_, Tryz.typeInfo137, rfl⟩⟩
instance hu137 : HasUnd Tryz.prog 137 := ⟨_, Tryz.runUnderlying137⟩
instance ty138 : Ty Tryz.prog 138 false 1 [.nilFunc] 8 := ⟨⟨Tryz.t138, _, by kernel_rfl, rfl, rfl, rfl, rfl⟩, Tryz.isAgg138, Tryz.sizeOf138, ⟨_, Tryz.zeroValue138, rfl⟩, ⟨_, Tryz.typeInfo138, rfl⟩⟩
instance hu138 : HasUnd Tryz.prog 138 := ⟨_, Tryz.runUnderlying138⟩
instance ty139 : Ty Tryz.prog 139 false 1 [.nilFunc] 8 := ⟨⟨Tryz.t139, _, by kernel_rfl, rfl, rfl, rfl, rfl⟩, Tryz.isAgg139, Tryz.sizeOf139, ⟨_, Tryz.zeroValue139, rfl⟩, ⟨_, Tryz.typeInfo139, rfl⟩⟩
instance hu139 : HasUnd Tryz.prog 139 := ⟨_, Tryz.runUnderlying139⟩
instance ty140 : Ty Tryz.prog 140 false 1 [.nilFunc] 8 := ⟨⟨Tryz.t140, _, by kernel_rfl, rfl, rfl, rfl, rfl⟩, Tryz.isAgg140, Tryz.sizeOf140, ⟨_, Tryz.zeroValue140, rfl⟩, ⟨_, Tryz.typeInfo140, rfl⟩⟩
instance hu140 : HasUnd Tryz.prog 140 := ⟨_, Tryz.runUnderlying140⟩
instance ty141 : Ty Tryz.prog 141 false 1 [.nilFunc] 8 := ⟨⟨Tryz.t141, _, by kernel_rfl, rfl, rfl, rfl, rfl⟩, Tryz.isAgg141, Tryz.sizeOf141, ⟨_, Tryz.zeroValue141, rfl⟩, ⟨_, Tryz.typeInfo141, rfl⟩⟩
instance hu141 : HasUnd Tryz.prog 141 := ⟨_, Tryz.runUnderlying141⟩
instance ty142 : Ty Tryz.prog 142 false 1 [.nilFunc] 8 := ⟨⟨Tryz.t142, _, by kernel_rfl, rfl, rfl, rfl, rfl⟩, Tryz.isAgg142, Tryz.sizeOf142, ⟨_, Tryz.zeroValue142, rfl⟩, ⟨_, Tryz.typeInfo142, rfl⟩⟩
instance hu142 : HasUnd Tryz.prog 142 := ⟨_, Tryz.runUnderlying142⟩
instance ty143 : Ty Tryz.prog 143 false 1 [.int .i64 0] 8 := ⟨⟨Tryz.t143, _, by kernel_rfl, rfl, rfl, rfl, rfl⟩, Tryz.isAgg143, Tryz.sizeOf143, ⟨_, Tryz.zeroValue143, rfl⟩, ⟨_, Tryz.typeInfo143, rfl⟩⟩
instance hu143 : HasUnd Tryz.prog 143 := ⟨_, Tryz.runUnderlying143⟩
instance it143 : IntTy Tryz.prog 143 .i64 := ⟨Tryz.runUnderlying143, Tryz.underlying143⟩
instance hu144 : HasUnd Tryz.prog 144 := ⟨_, Tryz.runUnderlying144⟩
instance ty145 : Ty Tryz.prog 145 false 1 [.nilFunc] 8 := ⟨⟨Tryz.t145, _, by kernel_rfl, rfl, rfl, rfl, rfl⟩, Tryz.isAgg145, Tryz.sizeOf145, ⟨_, Tryz.zeroValue145, rfl⟩, ⟨_, Tryz.typeInfo145, rfl⟩⟩
instance hu145 : HasUnd Tryz.prog 145 := ⟨_, Tryz.runUnderlying145⟩
instance ty146 : Ty Tryz.prog 146 false 1 [.nilFunc] 8 := ⟨⟨Tryz.t146, _, by kernel_rfl, rfl, rfl, rfl, rfl⟩, Tryz.isAgg146, Tryz.sizeOf146, ⟨_, Tryz.zeroValue146, rfl⟩, ⟨_, Tryz.typeInfo146, rfl⟩⟩
instance hu146 : HasUnd Tryz.prog 146 := ⟨_, Tryz.runUnderlying146⟩
instance ty147 : Ty Tryz.prog 147 false 1 [.nilFunc] 8 := ⟨⟨Tryz.t147, _, by kernel_rfl, rfl, rfl, rfl, rfl⟩, Tryz.isAgg147, Tryz.sizeOf147, ⟨_, Tryz.zeroValue147, rfl⟩, ⟨_, Tryz.typeInfo147, rfl⟩⟩
instance hu147 : HasUnd Tryz.prog 147 := ⟨_, Tryz.runUnderlying147⟩
instance ty148 : Ty Tryz.prog 148 false 1 [.nilFunc] 8 := ⟨⟨Tryz.t148, _, by kernel_rfl, rfl, rfl, rfl, rfl⟩, Tryz.isAgg148, Tryz.sizeOf148, ⟨_, Tryz.zeroValue148, rfl⟩, ⟨_, Tryz.typeInfo148, rfl⟩⟩
instance hu148 : HasUnd Tryz.prog 148 := ⟨_, Tryz.runUnderlying148⟩
instance ty149 : Ty Tryz.prog 149 false 1 [.nilFunc] 8 := ⟨⟨Tryz.t149, _, by kernel_rfl, rfl, rfl, rfl, rfl⟩, Tryz.isAgg149, Tryz.sizeOf149, ⟨_, Tryz.zeroValue149, rfl⟩, ⟨_, Tryz.typeInfo149, rfl⟩⟩
instance hu149 : HasUnd Tryz.prog 149 := ⟨_, Tryz.runUnderlying149⟩
instance ty150 : Ty Tryz.prog 150 false 1 [.nilFunc] 8 := ⟨⟨Tryz.t150, _, by kernel_rfl, rfl, rfl, rfl, rfl⟩, Tryz.isAgg150, Tryz.sizeOf150, ⟨_, Tryz.zeroValue150, rfl⟩, ⟨_, Tryz.typeInfo150, rfl⟩⟩
instance hu150 : HasUnd Tryz.prog 150 := ⟨_, Tryz.runUnderlying150⟩
instance ty151 : Ty Tryz.prog 151 false 1 [.nilFunc] 8 := ⟨⟨Tryz.t151, _, by kernel_rfl, rfl, rfl, rfl, rfl⟩, Tryz.isAgg151, Tryz.sizeOf151, ⟨_, Tryz.zeroValue151, rfl⟩, ⟨_, Tryz.typeInfo151, rfl⟩⟩
instance hu151 : HasUnd Tryz.prog 151 := ⟨_, Tryz.runUnderlying151⟩
instance ty152 : Ty Tryz.prog 152 true 24 [.int .u8 0, .int .u8 0, .int .u8 0, .int .u8 0, .int .u8 0, .int .u8 0, .int .u8 0, .int .u8 0, .int .u8 0, .int .u8 0, .int .u8 0, .int .u8 0, .int .u8 0, .int .u8 0, .int .u8 0, .int .u8 0, .int .u8 0, .int .u8 0, .int .u8 0, .int .u8 0, .int .u8 0, .int .u8 0, .int .u8 0, .int .u8 0] 24 := ⟨⟨Tryz.t152, _, by kernel_rfl, rfl, rfl, rfl, rfl⟩, Tryz.isAgg152, Tryz.sizeOf152, ⟨_, Tryz.zeroValue152, rfl⟩, ⟨_, Tryz.typeInfo152, rfl⟩⟩
instance hu152 : HasUnd Tryz.prog 152 := ⟨_, Tryz.runUnderlying152⟩
instance at152 : ArrTy Tryz.prog 152 24 5 := ⟨Tryz.runUnderlying152, Tryz.underlying152⟩
instance ty153 : Ty Tryz.prog 153 false 1 [.nilFunc] 8 := ⟨⟨Tryz.t153, _, by kernel_rfl, rfl, rfl, rfl, rfl⟩, Tryz.isAgg153, Tryz.sizeOf153, ⟨_, Tryz.zeroValue153, rfl⟩, ⟨_, Tryz.typeInfo153, rfl⟩⟩
instance hu153 : HasUnd Tryz.prog 153 := ⟨_, Tryz.runUnderlying153⟩
instance hu154 : HasUnd Tryz.prog 154 := ⟨_, Tryz.runUnderlying154⟩
instance ty155 : Ty Tryz.prog 155 false 1 [.nilFunc] 8 := ⟨⟨Tryz.t155, _, by kernel_rfl, rfl, rfl, rfl, rfl⟩, Tryz.isAgg155, Tryz.sizeOf155, ⟨_, Tryz.zeroValue155, rfl⟩, ⟨_, Tryz.typeInfo155, rfl⟩⟩
instance hu155 : HasUnd Tryz.prog 155 := ⟨_, Tryz.runUnderlying155⟩
instance ty156 : Ty Tryz.prog 156 false 1 [.int .i64 0] 8 := ⟨⟨Tryz.t156, _, by kernel_rfl, rfl, rfl, rfl, rfl⟩, Tryz.isAgg156, Tryz.sizeOf156, ⟨_, Tryz.zeroValue156, rfl⟩, ⟨_, Tryz.typeInfo156, rfl⟩⟩
instance hu156 : HasUnd Tryz.prog 156 := ⟨_, Tryz.runUnderlying156⟩
instance it156 : IntTy Tryz.prog 156 .i64 := ⟨Tryz.runUnderlying156, Tryz.underlying156⟩
instance hu157 : HasUnd Tryz.prog 157 := ⟨_, Tryz.runUnderlying157⟩
instance ty158 : Ty Tryz.prog 158 false 1 [.nilFunc] 8 := ⟨⟨Tryz.t158, _, by kernel_rfl, rfl, rfl, rfl, rfl⟩, Tryz.isAgg158, Tryz.sizeOf158, ⟨_, Tryz.zeroValue158, rfl⟩, ⟨_, Tryz.typeInfo158, rfl⟩⟩
instance hu158 : HasUnd Tryz.prog 158 := ⟨_, Tryz.runUnderlying158⟩
instance ty159 : Ty Tryz.prog 159 false 1 [.pointer none] 8 := ⟨⟨Tryz.t159, _, by kernel_rfl, rfl, rfl, rfl, rfl⟩, Tryz.isAgg159, Tryz.sizeOf159, ⟨_, Tryz.zeroValue159, rfl⟩, ⟨_, Tryz.typeInfo159, rfl⟩⟩
instance hu159 : HasUnd Tryz.prog 159 := ⟨_, Tryz.runUnderlying159⟩
instance pt159 : PtrTy Tryz.prog 159 177 := ⟨Tryz.runUnderlying159, Tryz.underlying159⟩
instance ty160 : Ty Tryz.prog 160 false 1 [.nilFunc] 8 := ⟨⟨Tryz.t160, _, by kernel_rfl, rfl, rfl, rfl, rfl⟩, Tryz.isAgg160, Tryz.sizeOf160, ⟨_, Tryz.zeroValue160, rfl⟩, ⟨_, Tryz.typeInfo160, rfl⟩⟩
instance hu160 : HasUnd Tryz.prog 160 := ⟨_, Tryz.runUnderlying160⟩
instance ty161 : Ty Tryz.prog 161 false 1 [.nilFunc] 8 := ⟨⟨Tryz.t161, _, by kernel_rfl, rfl, rfl, rfl, rfl⟩, Tryz.isAgg161, Tryz.sizeOf161, ⟨_, Tryz.zeroValue161, rfl⟩, ⟨_, Tryz.typeInfo161, rfl⟩⟩
instance hu161 : HasUnd Tryz.prog 161 := ⟨_, Tryz.runUnderlying161⟩
instance ty162 : Ty Tryz.prog 162 false 1 [.int .u64 0] 8 := ⟨⟨Tryz.t162, _, by kernel_rfl, rfl, rfl, rfl, rfl⟩, Tryz.isAgg162, Tryz.sizeOf162, ⟨_, Tryz.zeroValue162, rfl⟩, ⟨_, Tryz.typeInfo162, rfl⟩⟩
instance hu162 : HasUnd Tryz.prog 162 := ⟨_, Tryz.runUnderlying162⟩
instance it162 : IntTy Tryz.prog 162 .u64 := ⟨Tryz.runUnderlying162, Tryz.underlying162⟩
instance ty163 : Ty Tryz.prog 163 false 1 [.nilFunc] 8 := ⟨⟨Tryz.t163, _, by kernel_rfl, rfl, rfl, rfl, rfl⟩, Tryz.isAgg163, Tryz.sizeOf163, ⟨_, Tryz.zeroValue163, rfl⟩, ⟨_, Tryz.typeInfo163, rfl⟩⟩
instance hu163 : HasUnd Tryz.prog 163 := ⟨_, Tryz.runUnderlying163⟩
instance ty164 : Ty Tryz.prog 164 false 1 [.nilFunc] 8 := ⟨⟨Tryz.t164, _, by kernel_rfl, rfl, rfl, rfl, rfl⟩, Tryz.isAgg164, Tryz.sizeOf164, ⟨_, Tryz.zeroValue164, rfl⟩, ⟨_, Tryz.typeInfo164, rfl⟩⟩
instance hu164 : HasUnd Tryz.prog 164 := ⟨_, Tryz.runUnderlying164⟩
instance ty165 : Ty Tryz.prog 165 false 1 [.nilFunc] 8 := ⟨⟨Tryz.t165, _, by kernel_rfl, rfl, rfl, rfl, rfl⟩, Tryz.isAgg165, Tryz.sizeOf165, ⟨_, Tryz.zeroValue165, rfl⟩, ⟨_, Tryz.typeInfo165, rfl⟩⟩
instance hu165 : HasUnd Tryz.prog 165 := ⟨_, Tryz.runUnderlying165⟩
instance ty166 : Ty Tryz.prog 166 false 1 [.pointer none] 8 := ⟨⟨Tryz.t166, _, by kernel_rfl, rfl, rfl, rfl, rfl⟩, Tryz.isAgg166, Tryz.sizeOf166, ⟨_, Tryz.zeroValue166, rfl⟩, ⟨_, Tryz.typeInfo166, rfl⟩⟩
instance hu166 : HasUnd Tryz.prog 166 := ⟨_, Tryz.runUnderlying166⟩
instance pt166 : PtrTy Tryz.prog 166 3 := ⟨Tryz.runUnderlying166, Tryz.underlying166⟩
instance ty167 : Ty Tryz.prog 167 false 1 [.nilFunc] 8 := ⟨⟨Tryz.t167, _, by kernel_rfl, rfl, rfl, rfl, rfl⟩, Tryz.isAgg167, Tryz.sizeOf167, ⟨_, Tryz.zeroValue167, rfl⟩, ⟨_, Tryz.typeInfo167, rfl⟩⟩
instance hu167 : HasUnd Tryz.prog 167 := ⟨_, Tryz.runUnderlying167⟩
instance ty168 : Ty Tryz.prog 168 false 1 [.nilFunc] 8 := ⟨⟨Tryz.t168, _, by kernel_rfl, rfl, rfl, rfl, rfl⟩, Tryz.isAgg168, Tryz.sizeOf168, ⟨_, Tryz.zeroValue168, rfl⟩, ⟨_, Tryz.typeInfo168, rfl⟩⟩
instance hu168 : HasUnd Tryz.prog 168 := ⟨_, Tryz.runUnderlying168⟩
instance ty169 : Ty Tryz.prog 169 false 1 [.nilFunc] 8 := ⟨⟨Tryz.t169, _, by kernel_rfl, rfl, rfl, rfl, rfl⟩, Tryz.isAgg169, Tryz.sizeOf169, ⟨_, Tryz.zeroValue169, rfl⟩, ⟨_, Tryz.typeInfo169, rfl⟩⟩
instance hu169 : HasUnd Tryz.prog 169 := ⟨_, Tryz.runUnderlying169⟩
instance ty170 : Ty Tryz.prog 170 true 20 [.int .u64 0, .int .u64 0, .int .u64 0, .int .u64 0, .int .u64 0, .int .u64 0, .int .u64 0, .int .u64 0, .int .u64 0, .int .u64 0, .int .u64 0, .int .u64 0, .int .u64 0, .int .u64 0, .int .u64 0, .int .u64 0, .int .u64 0, .int .u64 0, .int .u64 0, .int .u64 0] 160 := ⟨⟨Tryz.t170, _, by kernel_rfl, rfl, rfl, rfl, rfl⟩, Tryz.isAgg170, Tryz.sizeOf170, ⟨_, Tryz.zeroValue170, rfl⟩, ⟨_, Tryz.typeInfo170, rfl⟩⟩
instance hu170 : HasUnd Tryz.prog 170 := ⟨_, Tryz.runUnderlying170⟩
instance at170 : ArrTy Tryz.prog 170 20 117 := ⟨Tryz.runUnderlying170, Tryz.underlying170⟩
instance ty171 : Ty Tryz.prog 171 true 65 [.int .u8 0, .int .u8 0, .int .u8 0, .int .u8 0, .int .u8 0, .int .u8 0, .int .u8 0, .int .u8 0, .int .u8 0, .int .u8 0, .int .u8 0, .int .u8 0, .int .u8 0, .int .u8 0, .int .u8 0, .int .u8 0, .int .u8 0, .int .u8 0, .int .u8 0, .int .u8 0, .int .u8 0, .int .u8 0, .int .u8 0, .int .u8 0, .int .u8 0, .int .u8 0, .int .u8 0, .int .u8 0, .int .u8 0, .int .u8 0, .int .u8 0, .int .u8 0, .int .u8 0, .int .u8 0, .int .u8 0, .int .u8 0, .int .u8 0, .int .u8 0, .int .u8 0, .int .u8 0, .int .u8 0, .int .u8 0, .int .u8 0, .int .u8 0, .int .u8 0, .int .u8 0, .int .u8 0, .int .u8 0, .int .u8 0, .int .u8 0, .int .u8 0, .int .u8 0, .int .u8 0, .int .u8 0, .int .u8 0, .int .u8 0, .int .u8 0, .int .u8 0, .int .u8 0, .int .u8 0, .int .u8 0, .int .u8 0, .int .u8 0, .int .u8 0, .int .u8 0] 65 := ⟨⟨Tryz.t171, _, by kernel_rfl, rfl, rfl, rfl, rfl⟩, Tryz.isAgg171, Tryz.sizeOf171, ⟨_, Tryz.zeroValue171, rfl⟩, ⟨_, Tryz.typeInfo171, rfl⟩⟩
instance hu171 : HasUnd Tryz.prog 171 := ⟨_, Tryz.runUnderlying171⟩
instance at171 : ArrTy Tryz.prog 171 65 5 := ⟨Tryz.runUnderlying171, Tryz.underlying171⟩
instance ty172 : Ty Tryz.prog 172 false 1 [.nilFunc] 8 := ⟨⟨Tryz.t172, _, by kernel_rfl, rfl, rfl, rfl, rfl⟩, Tryz.isAgg172, Tryz.sizeOf172, ⟨_, Tryz.zeroValue172, rfl⟩, ⟨_, Tryz.typeInfo172, rfl⟩⟩
instance hu172 : HasUnd Tryz.prog 172 := ⟨_, Tryz.runUnderlying172⟩
instance hu173 : HasUnd Tryz.prog 173 := ⟨_, Tryz.runUnderlying173⟩
instance ty174 : Ty Tryz.prog 174 false 1 [.nilFunc] 8 := ⟨⟨Tryz.t174, _, by kernel_rfl, rfl, rfl, rfl, rfl⟩, Tryz.isAgg174, Tryz.sizeOf174, ⟨_, Tryz.zeroValue174, rfl⟩, ⟨_, Tryz.typeInfo174, rfl⟩⟩
instance hu174 : HasUnd Tryz.prog 174 := ⟨_, Tryz.runUnderlying174⟩
instance ty175 : Ty Tryz.prog 175 false 1 [.nilFunc] 8 := ⟨⟨Tryz.t175, _, by kernel_rfl, rfl, rfl, rfl, rfl⟩, Tryz.isAgg175, Tryz.sizeOf175, ⟨_, Tryz.zeroValue175, rfl⟩, ⟨_, Tryz.typeInfo175, rfl⟩⟩
instance hu175 : HasUnd Tryz.prog 175 := ⟨_, Tryz.runUnderlying175⟩
instance ty176 : Ty Tryz.prog 176 true 3 [.string ⟨#[]⟩, .string ⟨#[]⟩, .nilIface] 48 := ⟨⟨Tryz.t176, _, by kernel_rfl, rfl, rfl, rfl, rfl⟩, Tryz.isAgg176, Tryz.sizeOf176, ⟨_, Tryz.zeroValue176, rfl⟩, ⟨_, Tryz.typeInfo176, rfl⟩⟩
instance hu176 : HasUnd Tryz.prog 176 := ⟨_, Tryz.runUnderlying176⟩
instance ss176 : StTy Tryz.prog 176 [(0, 1, false), (1, 1, false), (2, 1, false)] := ⟨_, Tryz.runUnderlying176, rfl, fun i off sz ag h => match i, h with
  | 0, h => by simp only [List.getElem?_cons_zero, List.getElem?_cons_succ, Option.some.injEq, Prod.mk.injEq] at h; obtain ⟨rfl, rfl, rfl⟩ := h; exact ⟨_, rfl, rfl, Tryz.sizeOf9, Tryz.isAgg9⟩
  | 1, h => by simp only [List.getElem?_cons_zero, List.getElem?_cons_succ, Option.some.injEq, Prod.mk.injEq] at h; obtain ⟨rfl, rfl, rfl⟩ := h; exact ⟨_, rfl, rfl, Tryz.sizeOf9, Tryz.isAgg9⟩
  | 2, h => by simp only [List.getElem?_cons_zero, List.getElem?_cons_succ, Option.some.injEq, Prod.mk.injEq] at h; obtain ⟨rfl, rfl, rfl⟩ := h; exact ⟨_, rfl, rfl, Tryz.sizeOf130, Tryz.isAgg130⟩
  | (i + 3), h => by simp at h⟩
instance ty177 : Ty Tryz.prog 177 true 3 [.string ⟨#[]⟩, .string ⟨#[]⟩, .nilIface] 48 := ⟨⟨Tryz.t177, _, by kernel_rfl, rfl, rfl, rfl, rfl⟩, Tryz.isAgg177, Tryz.sizeOf177, ⟨_, Tryz.zeroValue177, rfl⟩, ⟨_, Tryz.typeInfo177, rfl⟩⟩
instance hu177 : HasUnd Tryz.prog 177 := ⟨_, Tryz.runUnderlying177⟩
instance ss177 : StTy Tryz.prog 177 [(0, 1, false), (1, 1, false), (2, 1, false)] := ⟨_, Tryz.runUnderlying177, rfl, fun i off sz ag h => match i, h with
  | 0, h => by simp only [List.getElem?_cons_zero, List.getElem?_cons_succ, Option.some.injEq, Prod.mk.injEq] at h; obtain ⟨rfl, rfl, rfl⟩ := h; exact ⟨_, rfl, rfl, Tryz.sizeOf9, Tryz.isAgg9⟩
  | 1, h => by simp only [List.getElem?_cons_zero, List.getElem?_cons_succ, Option.some.injEq, Prod.mk.injEq] at h; obtain ⟨rfl, rfl, rfl⟩ := h; exact ⟨_, rfl, rfl, Tryz.sizeOf9, Tryz.isAgg9⟩
  | 2, h => by simp only [List.getElem?_cons_zero, List.getElem?_cons_succ, Option.some.injEq, Prod.mk.injEq] at h; obtain ⟨rfl, rfl, rfl⟩ := h; exact ⟨_, rfl, rfl, Tryz.sizeOf130, Tryz.isAgg130⟩
  | (i + 3), h => by simp at h⟩
instance ty178 : Ty Tryz.prog 178 false 1 [.nilFunc] 8 := ⟨⟨Tryz.t178, _, by kernel_rfl, rfl, rfl, rfl, rfl⟩, Tryz.isAgg178, Tryz.sizeOf178, ⟨_, Tryz.zeroValue178, rfl⟩, ⟨_, Tryz.typeInfo178, rfl⟩⟩
instance hu178 : HasUnd Tryz.prog 178 := ⟨_, Tryz.runUnderlying178⟩
instance ty179 : Ty Tryz.prog 179 false 1 [.pointer none] 8 := ⟨⟨Tryz.t179, _, by kernel_rfl, rfl, rfl, rfl, rfl⟩, Tryz.isAgg179, Tryz.sizeOf179, ⟨_, Tryz.zeroValue179, rfl⟩, ⟨_, Tryz.typeInfo179, rfl⟩⟩
instance hu179 : HasUnd Tryz.prog 179 := ⟨_, Tryz.runUnderlying179⟩
instance pt179 : PtrTy Tryz.prog 179 162 := ⟨Tryz.runUnderlying179, Tryz.underlying179⟩
instance hu180 : HasUnd Tryz.prog 180 := ⟨_, Tryz.runUnderlying180⟩
instance ty181 : Ty Tryz.prog 181 false 1 [.nilFunc] 8 := ⟨⟨Tryz.t181, _, by kernel_rfl, rfl, rfl, rfl, rfl⟩, Tryz.isAgg181, Tryz.sizeOf181, ⟨_, Tryz.zeroValue181, rfl⟩, ⟨_, Tryz.typeInfo181, rfl⟩⟩
instance hu181 : HasUnd Tryz.prog 181 := ⟨_, Tryz.runUnderlying181⟩
instance ty182 : Ty Tryz.prog 182 false 1 [.nilFunc] 8 := ⟨⟨Tryz.t182, _, by kernel_rfl, rfl, rfl, rfl, rfl⟩, Tryz.isAgg182, Tryz.sizeOf182, ⟨_, Tryz.zeroValue182, rfl⟩, ⟨_, Tryz.typeInfo182, rfl⟩⟩
instance hu182 : HasUnd Tryz.prog 182 := ⟨_, Tryz.runUnderlying182⟩
instance ty183 : Ty Tryz.prog 183 false 1 [.pointer none] 8 := ⟨⟨Tryz.t183, _, by kernel_rfl, rfl, rfl, rfl, rfl⟩, Tryz.isAgg183, Tryz.sizeOf183, ⟨_, Tryz.zeroValue183, rfl⟩, ⟨_, Tryz.typeInfo183, rfl⟩⟩
instance hu183 : HasUnd Tryz.prog 183 := ⟨_, Tryz.runUnderlying183⟩
instance pt183 : PtrTy Tryz.prog 183 5 := ⟨Tryz.runUnderlying183, Tryz.underlying183⟩
instance ty184 : Ty Tryz.prog 184 false 1 [.pointer none] 8 := ⟨⟨Tryz.t184, _, by kernel_rfl, rfl, rfl, rfl, rfl⟩, Tryz.isAgg184, Tryz.sizeOf184, ⟨_, Tryz.zeroValue184, rfl⟩, ⟨_, Tryz.typeInfo184, rfl⟩⟩
instance hu184 : HasUnd Tryz.prog 184 := ⟨_, Tryz.runUnderlying184⟩
instance pt184 : PtrTy Tryz.prog 184 186 := ⟨Tryz.runUnderlying184, Tryz.underlying184⟩
instance ty185 : Ty Tryz.prog 185 true 1 [.string ⟨#[]⟩] 16 := ⟨⟨Tryz.t185, _, by kernel_rfl, rfl, rfl, rfl, rfl⟩, Tryz.isAgg185, Tryz.sizeOf185, ⟨_, Tryz.zeroValue185, rfl⟩, ⟨_, Tryz.typeInfo185, rfl⟩⟩
instance hu185 : HasUnd Tryz.prog 185 := ⟨_, Tryz.runUnderlying185⟩
instance ss185 : StTy Tryz.prog 185 [(0, 1, false)] := ⟨_, Tryz.runUnderlying185, rfl, fun i off sz ag h => match i, h with
  | 0, h => by simp only [List.getElem?_cons_zero, List.getElem?_cons_succ, Option.some.injEq, Prod.mk.injEq] at h; obtain ⟨rfl, rfl, rfl⟩ := h; exact ⟨_, rfl, rfl, Tryz.sizeOf9, Tryz.isAgg9⟩
  | (i + 1), h => by simp at h⟩
instance ty186 : Ty Tryz.prog 186 true 1 [.string ⟨#[]⟩] 16 := ⟨⟨Tryz.t186, _, by kernel_rfl, rfl, rfl, rfl, rfl⟩, Tryz.isAgg186, Tryz.sizeOf186, ⟨_, Tryz.zeroValue186, rfl⟩, ⟨_, Tryz.typeInfo186, rfl⟩⟩
instance hu186 : HasUnd Tryz.prog 186 := ⟨_, Tryz.runUnderlying186⟩
instance ss186 : StTy Tryz.prog 186 [(0, 1, false)] := ⟨_, Tryz.runUnderlying186, rfl, fun i off sz ag h => match i, h with
  | 0, h => by simp only [List.getElem?_cons_zero, List.getElem?_cons_succ, Option.some.injEq, Prod.mk.injEq] at h; obtain ⟨rfl, rfl, rfl⟩ := h; exact ⟨_, rfl, rfl, Tryz.sizeOf9, Tryz.isAgg9⟩
  | (i + 1), h => by simp at h⟩
instance ty187 : Ty Tryz.prog 187 true 32 [.int .u8 0, .int .u8 0, .int .u8 0, .int .u8 0, .int .u8 0, .int .u8 0, .int .u8 0, .int .u8 0, .int .u8 0, .int .u8 0, .int .u8 0, .int .u8 0, .int .u8 0, .int .u8 0, .int .u8 0, .int .u8 0, .int .u8 0, .int .u8 0, .int .u8 0, .int .u8 0, .int .u8 0, .int .u8 0, .int .u8 0, .int .u8 0, .int .u8 0, .int .u8 0, .int .u8 0, .int .u8 0, .int .u8 0, .int .u8 0, .int .u8 0, .int .u8 0] 32 := ⟨⟨Tryz.t187, _, by kernel_rfl, rfl, rfl, rfl, rfl⟩, Tryz.isAgg187, Tryz.sizeOf187, ⟨_, Tryz.zeroValue187, rfl⟩, ⟨_, Tryz.typeInfo187, rfl⟩⟩
instance hu187 : HasUnd Tryz.prog 187 := ⟨_, Tryz.runUnderlying187⟩
instance at187 : ArrTy Tryz.prog 187 32 5 := ⟨Tryz.runUnderlying187, Tryz.underlying187⟩
instance ty188 : Ty Tryz.prog 188 true 64 [.int .u8 0, .int .u8 0, .int .u8 0, .int .u8 0, .int .u8 0, .int .u8 0, .int .u8 0, .int .u8 0, .int .u8 0, .int .u8 0, .int .u8 0, .int .u8 0, .int .u8 0, .int .u8 0, .int .u8 0, .int .u8 0, .int .u8 0, .int .u8 0, .int .u8 0, .int .u8 0, .int .u8 0, .int .u8 0, .int .u8 0, .int .u8 0, .int .u8 0, .int .u8 0, .int .u8 0, .int .u8 0, .int .u8 0, .int .u8 0, .int .u8 0, .int .u8 0, .int .u8 0, .int .u8 0, .int .u8 0, .int .u8 0, .int .u8 0, .int .u8 0, .int .u8 0, .int .u8 0, .int .u8 0, .int .u8 0, .int .u8 0, .int .u8 0, .int .u8 0, .int .u8 0, .int .u8 0, .int .u8 0, .int .u8 0, .int .u8 0, .int .u8 0, .int .u8 0, .int .u8 0, .int .u8 0, .int .u8 0, .int .u8 0, .int .u8 0, .int .u8 0, .int .u8 0, .int .u8 0, .int .u8 0, .int .u8 0, .int .u8 0, .int .u8 0] 64 := ⟨⟨Tryz.t188, _, by kernel_rfl, rfl, rfl, rfl, rfl⟩, Tryz.isAgg188, Tryz.sizeOf188, ⟨_, Tryz.zeroValue188, rfl⟩, ⟨_, Tryz.typeInfo188, rfl⟩⟩
instance hu188 : HasUnd Tryz.prog 188 := ⟨_, Tryz.runUnderlying188⟩
instance at188 : ArrTy Tryz.prog 188 64 5 := ⟨Tryz.runUnderlying188, Tryz.underlying188⟩
instance ty189 : Ty Tryz.prog 189 false 1 [.nilFunc] 8 := ⟨⟨Tryz.t189, _, by kernel_rfl, rfl, rfl, rfl, rfl⟩, Tryz.isAgg189, Tryz.sizeOf189, ⟨_, Tryz.zeroValue189, rfl⟩, ⟨_, Tryz.typeInfo189, rfl⟩⟩
instance hu189 : HasUnd Tryz.prog 189 := ⟨_, Tryz.runUnderlying189⟩
instance ty190 : Ty Tryz.prog 190 true 4 [.pointer none, .pointer none, .pointer none, .string ⟨#[]⟩] 40 := ⟨⟨Tryz.t190, _, by kernel_rfl, rfl, rfl, rfl, rfl⟩, Tryz.isAgg190, Tryz.sizeOf190, ⟨_, Tryz.zeroValue190, rfl⟩, ⟨_, Tryz.typeInfo190, rfl⟩⟩
instance hu190 : HasUnd Tryz.prog 190 := ⟨_, Tryz.runUnderlying190⟩
instance ss190 : StTy Tryz.prog 190 [(0, 1, false), (1, 1, false), (2, 1, false), (3, 1, false)] := ⟨_, Tryz.runUnderlying190, rfl, fun i off sz ag h => match i, h with
  | 0, h => by simp only [List.getElem?_cons_zero, List.getElem?_cons_succ, Option.some.injEq, Prod.mk.injEq] at h; obtain ⟨rfl, rfl, rfl⟩ := h; exact ⟨_, rfl, rfl, Tryz.sizeOf17, Tryz.isAgg17⟩
  | 1, h => by simp only [List.getElem?_cons_zero, List.getElem?_cons_succ, Option.some.injEq, Prod.mk.injEq] at h; obtain ⟨rfl, rfl, rfl⟩ := h; exact ⟨_, rfl, rfl, Tryz.sizeOf17, Tryz.isAgg17⟩
  | 2, h => by simp only [List.getElem?_cons_zero, List.getElem?_cons_succ, Option.some.injEq, Prod.mk.injEq] at h; obtain ⟨rfl, rfl, rfl⟩ := h; exact ⟨_, rfl, rfl, Tryz.sizeOf17, Tryz.isAgg17⟩
  | 3, h => by simp only [List.getElem?_cons_zero, List.getElem?_cons_succ, Option.some.injEq, Prod.mk.injEq] at h; obtain ⟨rfl, rfl, rfl⟩ := h; exact ⟨_, rfl, rfl, Tryz.sizeOf9, Tryz.isAgg9⟩
  | (i + 4), h => by simp at h⟩
instance ty191 : Ty Tryz.prog 191 true 4 [.pointer none, .pointer none, .pointer none, .string ⟨#[]⟩] 40 := ⟨⟨Tryz.t191, _, by kernel_rfl, rfl, rfl, rfl, rfl⟩, Tryz.isAgg191, Tryz.sizeOf191, ⟨_, Tryz.zeroValue191, rfl⟩, ⟨_, Tryz.typeInfo191, rfl⟩⟩
instance hu191 : HasUnd Tryz.prog 191 := ⟨_, Tryz.runUnderlying191⟩
instance ss191 : StTy Tryz.prog 191 [(0, 1, false), (1, 1, false), (2, 1, false), (3, 1, false)] := ⟨_, Tryz.runUnderlying191, rfl, fun i off sz ag h => match i, h with
  | 0, h => by simp only [List.getElem?_cons_zero, List.getElem?_cons_succ, Option.some.injEq, Prod.mk.injEq] at h; obtain ⟨rfl, rfl, rfl⟩ := h; exact ⟨_, rfl, rfl, Tryz.sizeOf17, Tryz.isAgg17⟩
  | 1, h => by simp only [List.getElem?_cons_zero, List.getElem?_cons_succ, Option.some.injEq, Prod.mk.injEq] at h; obtain ⟨rfl, rfl, rfl⟩ := h; exact ⟨_, rfl, rfl, Tryz.sizeOf17, Tryz.isAgg17⟩
  | 2, h => by simp only [List.getElem?_cons_zero, List.getElem?_cons_succ, Option.some.injEq, Prod.mk.injEq] at h; obtain ⟨rfl, rfl, rfl⟩ := h; exact ⟨_, rfl, rfl, Tryz.sizeOf17, Tryz.isAgg17⟩
  | 3, h => by simp only [List.getElem?_cons_zero, List.getElem?_cons_succ, Option.some.injEq, Prod.mk.injEq] at h; obtain ⟨rfl, rfl, rfl⟩ := h; exact ⟨_, rfl, rfl, Tryz.sizeOf9, Tryz.isAgg9⟩
  | (i + 4), h => by simp at h⟩
instance ty192 : Ty Tryz.prog 192 true 0 [] 0 := ⟨⟨Tryz.t192, _, by kernel_rfl, rfl, rfl, rfl, rfl⟩, Tryz.isAgg192, Tryz.sizeOf192, ⟨_, Tryz.zeroValue192, rfl⟩, ⟨_, Tryz.typeInfo192, rfl⟩⟩
instance hu192 : HasUnd Tryz.prog 192 := ⟨_, Tryz.runUnderlying192⟩
instance at192 : ArrTy Tryz.prog 192 0 16 := ⟨Tryz.runUnderlying192, Tryz.underlying192⟩
instance ty193 : Ty Tryz.prog 193 true 0 [] 0 := ⟨⟨Tryz.t193, _, by kernel_rfl, rfl, rfl, rfl, rfl⟩, Tryz.isAgg193, Tryz.sizeOf193, ⟨_, Tryz.zeroValue193, rfl⟩, ⟨_, Tryz.typeInfo193, rfl⟩⟩
instance hu193 : HasUnd Tryz.prog 193 := ⟨_, Tryz.runUnderlying193⟩
instance ss193 : StTy Tryz.prog 193 [(0, 0, true)] := ⟨_, Tryz.runUnderlying193, rfl, fun i off sz ag h => match i, h with
  | 0, h => by simp only [List.getElem?_cons_zero, List.getElem?_cons_succ, Option.some.injEq, Prod.mk.injEq] at h; obtain ⟨rfl, rfl, rfl⟩ := h; exact ⟨_, rfl, rfl, Tryz.sizeOf192, Tryz.isAgg192⟩
  | (i + 1), h => by simp at h⟩
instance ty194 : Ty Tryz.prog 194 true 0 [] 0 := ⟨⟨Tryz.t194, _, by kernel_rfl, rfl, rfl, rfl, rfl⟩, Tryz.isAgg194, Tryz.sizeOf194, ⟨_, Tryz.zeroValue194, rfl⟩, ⟨_, Tryz.typeInfo194, rfl⟩⟩
instance hu194 : HasUnd Tryz.prog 194 := ⟨_, Tryz.runUnderlying194⟩
instance ss194 : StTy Tryz.prog 194 [(0, 0, true)] := ⟨_, Tryz.runUnderlying194, rfl, fun i off sz ag h => match i, h with
  | 0, h => by simp only [List.getElem?_cons_zero, List.getElem?_cons_succ, Option.some.injEq, Prod.mk.injEq] at h; obtain ⟨rfl, rfl, rfl⟩ := h; exact ⟨_, rfl, rfl, Tryz.sizeOf192, Tryz.isAgg192⟩
  | (i + 1), h => by simp at h⟩
instance ty195 : Ty Tryz.prog 195 false 1 [.int .u8 0] 1 := ⟨⟨Tryz.t195, _, by kernel_rfl, rfl, rfl, rfl, rfl⟩, Tryz.isAgg195, Tryz.sizeOf195, ⟨_, Tryz.zeroValue195, rfl⟩, ⟨_, Tryz.typeInfo195, rfl⟩⟩
instance hu195 : HasUnd Tryz.prog 195 := ⟨_, Tryz.runUnderlying195⟩
instance it195 : IntTy Tryz.prog 195 .u8 := ⟨Tryz.runUnderlying195, Tryz.underlying195⟩
instance ty196 : Ty Tryz.prog 196 false 1 [.int .u8 0] 1 := ⟨⟨Tryz.t196, _, by kernel_rfl, rfl, rfl, rfl, rfl⟩, Tryz.isAgg196, Tryz.sizeOf196, ⟨_, Tryz.zeroValue196, rfl⟩, ⟨_, Tryz.typeInfo196, rfl⟩⟩
instance hu196 : HasUnd Tryz.prog 196 := ⟨_, Tryz.runUnderlying196⟩
instance it196 : IntTy Tryz.prog 196 .u8 := ⟨Tryz.runUnderlying196, Tryz.underlying196⟩
instance ty197 : Ty Tryz.prog 197 false 1 [.nilFunc] 8 := ⟨⟨Tryz.t197, _, by kernel_rfl, rfl, rfl, rfl, rfl⟩, Tryz.isAgg197, Tryz.sizeOf197, ⟨_, Tryz.zeroValue197, rfl⟩, ⟨_, Tryz.typeInfo197, rfl⟩⟩
instance hu197 : HasUnd Tryz.prog 197 := ⟨_, Tryz.runUnderlying197⟩
instance ty198 : Ty Tryz.prog 198 false 1 [.int .i32 0] 4 := ⟨⟨Tryz.t198, _, by kernel_rfl, rfl, rfl, rfl, rfl⟩, Tryz.isAgg198, Tryz.sizeOf198, ⟨_, Tryz.zeroValue198, rfl⟩, ⟨_, Tryz.typeInfo198, rfl⟩⟩
instance hu198 : HasUnd Tryz.prog 198 := ⟨_, Tryz.runUnderlying198⟩
instance it198 : IntTy Tryz.prog 198 .i32 := ⟨Tryz.runUnderlying198, Tryz.underlying198⟩
instance ty199 : Ty Tryz.prog 199 false 1 [.int .i32 0] 4 := ⟨⟨Tryz.t199, _, by kernel_rfl, rfl, rfl, rfl, rfl⟩, Tryz.isAgg199, Tryz.sizeOf199, ⟨_, Tryz.zeroValue199, rfl⟩, ⟨_, Tryz.typeInfo199, rfl⟩⟩
instance hu199 : HasUnd Tryz.prog 199 := ⟨_, Tryz.runUnderlying199⟩
instance it199 : IntTy Tryz.prog 199 .i32 := ⟨Tryz.runUnderlying199, Tryz.underlying199⟩
instance ty200 : Ty Tryz.prog 200 true 11 [.int .u64 0, .int .u64 0, .int .u32 0, .int .u8 0, .int .u8 0, .int .u8 0, .int .u8 0, .nilFunc, .pointer none, .int .i32 0, .int .i32 0] 48 := ⟨⟨Tryz.t200, _, by kernel_rfl, rfl, rfl, rfl, rfl⟩, Tryz.isAgg200, Tryz.sizeOf200, ⟨_, Tryz.zeroValue200, rfl⟩, ⟨_, Tryz.typeInfo200, rfl⟩⟩
instance hu200 : HasUnd Tryz.prog 200 := ⟨_, Tryz.runUnderlying200⟩
instance ss200 : StTy Tryz.prog 200 [(0, 1, false), (1, 1, false), (2, 1, false), (3, 1, false), (4, 1, false), (5, 1, false), (6, 1, false), (7, 1, false), (8, 1, false), (9, 1, false), (10, 1, false)] := ⟨_, Tryz.runUnderlying200, rfl, fun i off sz ag h => match i, h with
  | 0, h => by simp only [List.getElem?_cons_zero, List.getElem?_cons_succ, Option.some.injEq, Prod.mk.injEq] at h; obtain ⟨rfl, rfl, rfl⟩ := h; exact ⟨_, rfl, rfl, Tryz.sizeOf12, Tryz.isAgg12⟩
  | 1, h => by simp only [List.getElem?_cons_zero, List.getElem?_cons_succ, Option.some.injEq, Prod.mk.injEq] at h; obtain ⟨rfl, rfl, rfl⟩ := h; exact ⟨_, rfl, rfl, Tryz.sizeOf12, Tryz.isAgg12⟩
  | 2, h => by simp only [List.getElem?_cons_zero, List.getElem?_cons_succ, Option.some.injEq, Prod.mk.injEq] at h; obtain ⟨rfl, rfl, rfl⟩ := h; exact ⟨_, rfl, rfl, Tryz.sizeOf108, Tryz.isAgg108⟩
  | 3, h => by simp only [List.getElem?_cons_zero, List.getElem?_cons_succ, Option.some.injEq, Prod.mk.injEq] at h; obtain ⟨rfl, rfl, rfl⟩ := h; exact ⟨_, rfl, rfl, Tryz.sizeOf195, Tryz.isAgg195⟩
  | 4, h => by simp only [List.getElem?_cons_zero, List.getElem?_cons_succ, Option.some.injEq, Prod.mk.injEq] at h; obtain ⟨rfl, rfl, rfl⟩ := h; exact ⟨_, rfl, rfl, Tryz.sizeOf5, Tryz.isAgg5⟩
  | 5, h => by simp only [List.getElem?_cons_zero, List.getElem?_cons_succ, Option.some.injEq, Prod.mk.injEq] at h; obtain ⟨rfl, rfl, rfl⟩ := h; exact ⟨_, rfl, rfl, Tryz.sizeOf5, Tryz.isAgg5⟩
  | 6, h => by simp only [List.getElem?_cons_zero, List.getElem?_cons_succ, Option.some.injEq, Prod.mk.injEq] at h; obtain ⟨rfl, rfl, rfl⟩ := h; exact ⟨_, rfl, rfl, Tryz.sizeOf196, Tryz.isAgg196⟩
  | 7, h => by simp only [List.getElem?_cons_zero, List.getElem?_cons_succ, Option.some.injEq, Prod.mk.injEq] at h; obtain ⟨rfl, rfl, rfl⟩ := h; exact ⟨_, rfl, rfl, Tryz.sizeOf197, Tryz.isAgg197⟩
  | 8, h => by simp only [List.getElem?_cons_zero, List.getElem?_cons_succ, Option.some.injEq, Prod.mk.injEq] at h; obtain ⟨rfl, rfl, rfl⟩ := h; exact ⟨_, rfl, rfl, Tryz.sizeOf183, Tryz.isAgg183⟩
  | 9, h => by simp only [List.getElem?_cons_zero, List.getElem?_cons_succ, Option.some.injEq, Prod.mk.injEq] at h; obtain ⟨rfl, rfl, rfl⟩ := h; exact ⟨_, rfl, rfl, Tryz.sizeOf198, Tryz.isAgg198⟩
  | 10, h => by simp only [List.getElem?_cons_zero, List.getElem?_cons_succ, Option.some.injEq, Prod.mk.injEq] at h; obtain ⟨rfl, rfl, rfl⟩ := h; exact ⟨_, rfl, rfl, Tryz.sizeOf199, Tryz.isAgg199⟩
  | (i + 11), h => by simp at h⟩
instance ty201 : Ty Tryz.prog 201 true 11 [.int .u64 0, .int .u64 0, .int .u32 0, .int .u8 0, .int .u8 0, .int .u8 0, .int .u8 0, .nilFunc, .pointer none, .int .i32 0, .int .i32 0] 48 := ⟨⟨Tryz.t201, _, by kernel_rfl, rfl, rfl, rfl, rfl⟩, Tryz.isAgg201, Tryz.sizeOf201, ⟨_, Tryz.zeroValue201, rfl⟩, ⟨_, Tryz.typeInfo201, rfl⟩⟩
instance hu201 : HasUnd Tryz.prog 201 := ⟨_, Tryz.runUnderlying201⟩
instance ss201 : StTy Tryz.prog 201 [(0, 1, false), (1, 1, false), (2, 1, false), (3, 1, false), (4, 1, false), (5, 1, false), (6, 1, false), (7, 1, false), (8, 1, false), (9, 1, false), (10, 1, false)] := ⟨_, Tryz.runUnderlying201, rfl, fun i off sz ag h => match i, h with
  | 0, h => by simp only [List.getElem?_cons_zero, List.getElem?_cons_succ, Option.some.injEq, Prod.mk.injEq] at h; obtain ⟨rfl, rfl, rfl⟩ := h; exact ⟨_, rfl, rfl, Tryz.sizeOf12, Tryz.isAgg12⟩
  | 1, h => by simp only [List.getElem?_cons_zero, List.getElem?_cons_succ, Option.some.injEq, Prod.mk.injEq] at h; obtain ⟨rfl, rfl, rfl⟩ := h; exact ⟨_, rfl, rfl, Tryz.sizeOf12, Tryz.isAgg12⟩
  | 2, h => by simp only [List.getElem?_cons_zero, List.getElem?_cons_succ, Option.some.injEq, Prod.mk.injEq] at h; obtain ⟨rfl, rfl, rfl⟩ := h; exact ⟨_, rfl, rfl, Tryz.sizeOf108, Tryz.isAgg108⟩
  | 3, h => by simp only [List.getElem?_cons_zero, List.getElem?_cons_succ, Option.some.injEq, Prod.mk.injEq] at h; obtain ⟨rfl, rfl, rfl⟩ := h; exact ⟨_, rfl, rfl, Tryz.sizeOf195, Tryz.isAgg195⟩
  | 4, h => by simp only [List.getElem?_cons_zero, List.getElem?_cons_succ, Option.some.injEq, Prod.mk.injEq] at h; obtain ⟨rfl, rfl, rfl⟩ := h; exact ⟨_, rfl, rfl, Tryz.sizeOf5, Tryz.isAgg5⟩
  | 5, h => by simp only [List.getElem?_cons_zero, List.getElem?_cons_succ, Option.some.injEq, Prod.mk.injEq] at h; obtain ⟨rfl, rfl, rfl⟩ := h; exact ⟨_, rfl, rfl, Tryz.sizeOf5, Tryz.isAgg5⟩
  | 6, h => by simp only [List.getElem?_cons_zero, List.getElem?_cons_succ, Option.some.injEq, Prod.mk.injEq] at h; obtain ⟨rfl, rfl, rfl⟩ := h; exact ⟨_, rfl, rfl, Tryz.sizeOf196, Tryz.isAgg196⟩
  | 7, h => by simp only [List.getElem?_cons_zero, List.getElem?_cons_succ, Option.some.injEq, Prod.mk.injEq] at h; obtain ⟨rfl, rfl, rfl⟩ := h; exact ⟨_, rfl, rfl, Tryz.sizeOf197, Tryz.isAgg197⟩
  | 8, h => by simp only [List.getElem?_cons_zero, List.getElem?_cons_succ, Option.some.injEq, Prod.mk.injEq] at h; obtain ⟨rfl, rfl, rfl⟩ := h; exact ⟨_, rfl, rfl, Tryz.sizeOf183, Tryz.isAgg183⟩
  | 9, h => by simp only [List.getElem?_cons_zero, List.getElem?_cons_succ, Option.some.injEq, Prod.mk.injEq] at h; obtain ⟨rfl, rfl, rfl⟩ := h; exact ⟨_, rfl, rfl, Tryz.sizeOf198, Tryz.isAgg198⟩
  | 10, h => by simp only [List.getElem?_cons_zero, List.getElem?_cons_succ, Option.some.injEq, Prod.mk.injEq] at h; obtain ⟨rfl, rfl, rfl⟩ := h; exact ⟨_, rfl, rfl, Tryz.sizeOf199, Tryz.isAgg199⟩
  | (i + 11), h => by simp at h⟩
instance ty202 : Ty Tryz.prog 202 false 1 [.pointer none] 8 := ⟨⟨Tryz.t202, _, by kernel_rfl, rfl, rfl, rfl, rfl⟩, Tryz.isAgg202, Tryz.sizeOf202, ⟨_, Tryz.zeroValue202, rfl⟩, ⟨_, Tryz.typeInfo202, rfl⟩⟩
instance hu202 : HasUnd Tryz.prog 202 := ⟨_, Tryz.runUnderlying202⟩
instance en3 : Enters Tryz.prog 3 := ⟨Tryz.call3⟩
instance en4 : Enters Tryz.prog 4 := ⟨Tryz.call4⟩
instance en5 : Enters Tryz.prog 5 := ⟨Tryz.call5⟩
instance en6 : Enters Tryz.prog 6 := ⟨Tryz.call6⟩
instance en7 : Enters Tryz.prog 7 := ⟨Tryz.call7⟩
instance en8 : Enters Tryz.prog 8 := ⟨Tryz.call8⟩
instance en9 : Enters Tryz.prog 9 := ⟨Tryz.call9⟩
instance en10 : Enters Tryz.prog 10 := ⟨Tryz.call10⟩
instance en11 : Enters Tryz.prog 11 := ⟨Tryz.call11⟩
instance en12 : Enters Tryz.prog 12 := ⟨Tryz.call12⟩
instance en13 : Enters Tryz.prog 13 := ⟨Tryz.call13⟩
instance en14 : Enters Tryz.prog 14 := ⟨Tryz.call14⟩
instance en15 : Enters Tryz.prog 15 := ⟨Tryz.call15⟩
instance en16 : Enters Tryz.prog 16 := ⟨Tryz.call16⟩
instance en17 : Enters Tryz.prog 17 := ⟨Tryz.call17⟩
instance en18 : Enters Tryz.prog 18 := ⟨Tryz.call18⟩
instance en19 : Enters Tryz.prog 19 := ⟨Tryz.call19⟩
instance en20 : Enters Tryz.prog 20 := ⟨Tryz.call20⟩
instance en21 : Enters Tryz.prog 21 := ⟨Tryz.call21⟩
instance en22 : Enters Tryz.prog 22 := ⟨Tryz.call22⟩
instance en23 : Enters Tryz.prog 23 := ⟨Tryz.call23⟩
instance en24 : Enters Tryz.prog 24 := ⟨Tryz.call24⟩
instance en25 : Enters Tryz.prog 25 := ⟨Tryz.call25⟩
instance en26 : Enters Tryz.prog 26 := ⟨Tryz.call26⟩
instance en27 : Enters Tryz.prog 27 := ⟨Tryz.call27⟩
instance en28 : Enters Tryz.prog 28 := ⟨Tryz.call28⟩
instance en29 : Enters Tryz.prog 29 := ⟨Tryz.call29⟩
instance en30 : Enters Tryz.prog 30 := ⟨Tryz.call30⟩
instance en31 : Enters Tryz.prog 31 := ⟨Tryz.call31⟩
instance en32 : Enters Tryz.prog 32 := ⟨Tryz.call32⟩
instance en33 : Enters Tryz.prog 33 := ⟨Tryz.call33⟩
instance en34 : Enters Tryz.prog 34 := ⟨Tryz.call34⟩
instance en35 : Enters Tryz.prog 35 := ⟨Tryz.call35⟩
instance en36 : Enters Tryz.prog 36 := ⟨Tryz.call36⟩
instance en37 : Enters Tryz.prog 37 := ⟨Tryz.call37⟩
instance en38 : Enters Tryz.prog 38 := ⟨Tryz.call38⟩
instance en39 : Enters Tryz.prog 39 := ⟨Tryz.call39⟩
instance en40 : Enters Tryz.prog 40 := ⟨Tryz.call40⟩
instance en41 : Enters Tryz.prog 41 := ⟨Tryz.call41⟩
instance en42 : Enters Tryz.prog 42 := ⟨Tryz.call42⟩
instance en43 : Enters Tryz.prog 43 := ⟨Tryz.call43⟩
instance en44 : Enters Tryz.prog 44 := ⟨Tryz.call44⟩
instance en45 : Enters Tryz.prog 45 := ⟨Tryz.call45⟩
instance en46 : Enters Tryz.prog 46 := ⟨Tryz.call46⟩
instance en47 : Enters Tryz.prog 47 := ⟨Tryz.call47⟩
instance en48 : Enters Tryz.prog 48 := ⟨Tryz.call48⟩
instance en49 : Enters Tryz.prog 49 := ⟨Tryz.call49⟩
instance en50 : Enters Tryz.prog 50 := ⟨Tryz.call50⟩
instance en51 : Enters Tryz.prog 51 := ⟨Tryz.call51⟩
instance en52 : Enters Tryz.prog 52 := ⟨Tryz.call52⟩
instance en53 : Enters Tryz.prog 53 := ⟨Tryz.call53⟩
instance en54 : Enters Tryz.prog 54 := ⟨Tryz.call54⟩
instance en55 : Enters Tryz.prog 55 := ⟨Tryz.call55⟩
instance en56 : Enters Tryz.prog 56 := ⟨Tryz.call56⟩
instance en57 : Enters Tryz.prog 57 := ⟨Tryz.call57⟩
instance en58 : Enters Tryz.prog 58 := ⟨Tryz.call58⟩
instance en59 : Enters Tryz.prog 59 := ⟨Tryz.call59⟩
instance en60 : Enters Tryz.prog 60 := ⟨Tryz.call60⟩
instance en61 : Enters Tryz.prog 61 := ⟨Tryz.call61⟩
instance en62 : Enters Tryz.prog 62 := ⟨Tryz.call62⟩
instance en63 : Enters Tryz.prog 63 := ⟨Tryz.call63⟩
instance en64 : Enters Tryz.prog 64 := ⟨Tryz.call64⟩
instance en65 : Enters Tryz.prog 65 := ⟨Tryz.call65⟩
instance en66 : Enters Tryz.prog 66 := ⟨Tryz.call66⟩
instance en67 : Enters Tryz.prog 67 := ⟨Tryz.call67⟩
instance en68 : Enters Tryz.prog 68 := ⟨Tryz.call68⟩
instance en69 : Enters Tryz.prog 69 := ⟨Tryz.call69⟩
instance en70 : Enters Tryz.prog 70 := ⟨Tryz.call70⟩
instance en72 : Enters Tryz.prog 72 := ⟨Tryz.call72⟩
instance en73 : Enters Tryz.prog 73 := ⟨Tryz.call73⟩
instance en74 : Enters Tryz.prog 74 := ⟨Tryz.call74⟩
instance en75 : Enters Tryz.prog 75 := ⟨Tryz.call75⟩
instance en76 : Enters Tryz.prog 76 := ⟨Tryz.call76⟩
instance en77 : Enters Tryz.prog 77 := ⟨Tryz.call77⟩
instance en78 : Enters Tryz.prog 78 := ⟨Tryz.call78⟩
instance en79 : Enters Tryz.prog 79 := ⟨Tryz.call79⟩
instance en80 : Enters Tryz.prog 80 := ⟨Tryz.call80⟩
instance en81 : Enters Tryz.prog 81 := ⟨Tryz.call81⟩
instance en82 : Enters Tryz.prog 82 := ⟨Tryz.call82⟩
instance en83 : Enters Tryz.prog 83 := ⟨Tryz.call83⟩
instance en84 : Enters Tryz.prog 84 := ⟨Tryz.call84⟩
instance en85 : Enters Tryz.prog 85 := ⟨Tryz.call85⟩
instance en86 : Enters Tryz.prog 86 := ⟨Tryz.call86⟩
instance en87 : Enters Tryz.prog 87 := ⟨Tryz.call87⟩
instance en88 : Enters Tryz.prog 88 := ⟨Tryz.call88⟩
instance en89 : Enters Tryz.prog 89 := ⟨Tryz.call89⟩
instance en90 : Enters Tryz.prog 90 := ⟨Tryz.call90⟩
instance en91 : Enters Tryz.prog 91 := ⟨Tryz.call91⟩
instance en92 : Enters Tryz.prog 92 := ⟨Tryz.call92⟩
instance en93 : Enters Tryz.prog 93 := ⟨Tryz.call93⟩
instance en94 : Enters Tryz.prog 94 := ⟨Tryz.call94⟩
instance en95 : Enters Tryz.prog 95 := ⟨Tryz.call95⟩
instance en96 : Enters Tryz.prog 96 := ⟨Tryz.call96⟩
instance en97 : Enters Tryz.prog 97 := ⟨Tryz.call97⟩
instance en98 : Enters Tryz.prog 98 := ⟨Tryz.call98⟩
instance en99 : Enters Tryz.prog 99 := ⟨Tryz.call99⟩
instance en100 : Enters Tryz.prog 100 := ⟨Tryz.call100⟩
instance en101 : Enters Tryz.prog 101 := ⟨Tryz.call101⟩
instance en102 : Enters Tryz.prog 102 := ⟨Tryz.call102⟩
instance en103 : Enters Tryz.prog 103 := ⟨Tryz.call103⟩
instance en104 : Enters Tryz.prog 104 := ⟨Tryz.call104⟩
instance en105 : Enters Tryz.prog 105 := ⟨Tryz.call105⟩
instance en106 : Enters Tryz.prog 106 := ⟨Tryz.call106⟩
instance en107 : Enters Tryz.prog 107 := ⟨Tryz.call107⟩
instance en108 : Enters Tryz.prog 108 := ⟨Tryz.call108⟩
instance en109 : Enters Tryz.prog 109 := ⟨Tryz.call109⟩
instance en110 : Enters Tryz.prog 110 := ⟨Tryz.call110⟩
instance en111 : Enters Tryz.prog 111 := ⟨Tryz.call111⟩
instance en112 : Enters Tryz.prog 112 := ⟨Tryz.call112⟩
instance en113 : Enters Tryz.prog 113 := ⟨Tryz.call113⟩
instance en114 : Enters Tryz.prog 114 := ⟨Tryz.call114⟩
instance en115 : Enters Tryz.prog 115 := ⟨Tryz.call115⟩
instance en116 : Enters Tryz.prog 116 := ⟨Tryz.call116⟩
instance en117 : Enters Tryz.prog 117 := ⟨Tryz.call117⟩
instance en118 : Enters Tryz.prog 118 := ⟨Tryz.call118⟩
instance en119 : Enters Tryz.prog 119 := ⟨Tryz.call119⟩
instance en120 : Enters Tryz.prog 120 := ⟨Tryz.call120⟩
instance en121 : Enters Tryz.prog 121 := ⟨Tryz.call121⟩
instance en122 : Enters Tryz.prog 122 := ⟨Tryz.call122⟩
instance en123 : Enters Tryz.prog 123 := ⟨Tryz.call123⟩
instance en124 : Enters Tryz.prog 124 := ⟨Tryz.call124⟩
instance en125 : Enters Tryz.prog 125 := ⟨Tryz.call125⟩
instance en126 : Enters Tryz.prog 126 := ⟨Tryz.call126⟩
instance en127 : Enters Tryz.prog 127 := ⟨Tryz.call127⟩
instance en128 : Enters Tryz.prog 128 := ⟨Tryz.call128⟩
instance en129 : Enters Tryz.prog 129 := ⟨Tryz.call129⟩
instance en130 : Enters Tryz.prog 130 := ⟨Tryz.call130⟩
instance en131 : Enters Tryz.prog 131 := ⟨Tryz.call131⟩
instance en132 : Enters Tryz.prog 132 := ⟨Tryz.call132⟩
instance en133 : Enters Tryz.prog 133 := ⟨Tryz.call133⟩
instance en134 : Enters Tryz.prog 134 := ⟨Tryz.call134⟩
end Go.Proofs.YtkleenllkjodoaaGreatDoor
namespace Go.Proofs.YtkleenllkjodoaaGreatDoor
open Go Go.SX
attribute [local irreducible] swp opsS thenS blockS retS CallsS St Ent YieldS anyS drawS
attribute [local irreducible] opsI
abbrev U64 : Int → Value := Value.int .u64
def apRec (fn : FuncId) (tmps : Array Value) (ps : Array Tmp) (assign body : Code) (D : Nat) (st : LoopState) (pe : Option Code) : Loop := { state := st, pending := pe, fn, tmps, params := ps, assign, body, defers := D }
theorem St.obj {w : World} {l : Nat} {o o' : Obj} {L : List HP} (H : St w (pt l o :: L)) : St (w.putObj l o') (pt l o' :: L) := by
  have hl := St.pt_read H
  have hlt : l < w.heap.size := (Array.getElem?_eq_some_iff.1 hl).1
  exact St.pt_write H (World.putObj_heap_same hlt) (fun k hk => World.putObj_heap_other hk) rfl
end Go.Proofs.YtkleenllkjodoaaGreatDoor
namespace Go.Proofs.YtkleenllkjodoaaGreatDoor
open Go Go.SX
attribute [local irreducible] swp opsS thenS blockS retS CallsS St Ent YieldS anyS drawS
abbrev I32 : Int → Value := Value.int .i32
abbrev cI (z : Int) : List Value := [I32 z]
structure OV where
  id : Int
  a : Option Addr
  c : Nat
  vec : List Int
abbrev OV.cells (o : OV) : List Value := [.int .u64 o.id, .slice o.a o.vec.length o.c]
abbrev OV.val (o : OV) : Value := .agg #[.int .u64 o.id, .slice o.a o.vec.length o.c]
abbrev OV.abs (o : OV) : Int × List Int := (o.id, o.vec)
end Go.Proofs.YtkleenllkjodoaaGreatDoor
namespace Go.Proofs.YtkleenllkjodoaaGreatDoor
open Go Go.SX
attribute [local irreducible] swp opsS thenS blockS retS CallsS St Ent YieldS anyS drawS
def badC (z : Int) : Bool := decide (z < -268435456) || decide (268435456 < z)
def rightV (xs : List Int) : Bool := decide (0 < xs.length) && decide (xs.length ≤ 8) && !xs.any badC
end Go.Proofs.YtkleenllkjodoaaGreatDoor
namespace Go.SX
open Go
def ar (k : IntKind) (d : Array Int) (rest : List Value) : List Value := d.toList.map (Value.int k) ++ rest
section
variable {P : Program} {n : Nat} {ops rest : List Oper} {Q : Post} {f : Env} {A L : List HP} {d : Tmp} {ty : TypeId} {pos : String} {af : Array Edge}
theorem Y.addN {x y : Operand} {t t' : TypeId} {a b : Nat} (hx : ev f x = some (.int .i64 (Int.ofNat a))) (hy : ev f y = some (.int .i64 (Int.ofNat b))) (h : a + b ≤ 9223372036854775807) : YieldS P n ops ⟨some d, .binOp .add t x y t', ty, pos, af, none⟩ f A (.int .i64 ((a + b : Nat) : Int)) :=
  Y.addi hx hy rfl (by omega) (by omega)
theorem Y.subN {x y : Operand} {t t' : TypeId} {a b : Nat} (hx : ev f x = some (.int .i64 (Int.ofNat a))) (hy : ev f y = some (.int .i64 (Int.ofNat b))) (h : b ≤ a ∧ a ≤ 9223372036854775807) : YieldS P n ops ⟨some d, .binOp .sub t x y t', ty, pos, af, none⟩ f A (.int .i64 ((a - b : Nat) : Int)) :=
  Y.subi hx hy (by have := h.1; show (a : Int) - (b : Int) = _; omega) (by omega) (by omega)
end
section
variable {P : Program} {n : Nat} {ops rest : List Oper} {Q : Post} {f : Env} {A L : List HP} {E cs σ : List Nat} {listed : Array Bool} {held : Bool}
variable {d : Tmp} {op : Op} {ty : TypeId} {pos : String} {af : Array Edge} {g : Option (Nat × Bool)} {v : Value}
end
namespace Q
end Q
end Go.SX
namespace Go.SX
open Go
section
variable {P : Program} {n : Nat} {ops rest : List Oper} {Q : Post} {f : Env} {A L : List HP} {d : Tmp} {ty : TypeId} {pos : String} {af : Array Edge}
theorem Y.ldRj {x : Operand} {t : TypeId} {sz bts : Nat} {zs : List Value} {b o j : Nat} {v : Value} {cs : List Value} [h : Ty P t false sz zs bts] (hx : ev f x = some (.pointer (some ⟨b, o + j, none⟩))) (hr : RdC A b o cs) (hj : cs[j]? = some v) : YieldS P n ops ⟨some d, .load t x, ty, pos, af, none⟩ f A v :=
  Y.ldR hx (hr.at hj)
theorem Y.shr {x y : Operand} {t t' : TypeId} {k k' : IntKind} {a b : Nat} (hx : ev f x = some (.int k (a : Int))) (hy : ev f y = some (.int k' (b : Int))) (hb : b ≤ k.bits) : YieldS P n ops ⟨some d, .binOp .shr t x y t', ty, pos, af, none⟩ f A (.int k ((a / 2 ^ b : Nat) : Int)) :=
  Y.of (fun _ w s => by
    have e1 : ¬ ((b : Int) < 0) := by omega
    have e2 : Min.min b k.bits = b := Nat.min_eq_left hb
    have e3 : (a : Int).fdiv (2 ^ b) = ((a / 2 ^ b : Nat) : Int) := by
      rw [Int.fdiv_eq_ediv_of_nonneg _ (by exact_mod_cast Nat.zero_le _)]; norm_cast
    simp [execOp, s.eval hx, s.eval hy, eqGuard, binOp, Op.shift, e1, e2, e3])
theorem Y.shl {x y : Operand} {t t' : TypeId} {k k' : IntKind} {a b : Nat} (hx : ev f x = some (.int k (a : Int))) (hy : ev f y = some (.int k' (b : Int))) (hb : b ≤ k.bits) : YieldS P n ops ⟨some d, .binOp .shl t x y t', ty, pos, af, none⟩ f A (.int k (k.wrap ((a * 2 ^ b : Nat) : Int))) :=
  Y.of (fun _ w s => by
    have e1 : ¬ ((b : Int) < 0) := by omega
    have e2 : Min.min b k.bits = b := Nat.min_eq_left hb
    have e3 : (a : Int) * 2 ^ b = ((a * 2 ^ b : Nat) : Int) := by norm_cast
    have e4 : (Op.shift .shl k (a : Int) k' (b : Int)).run P w = .ok (.int k (k.wrap ((a * 2 ^ b : Nat) : Int))) w := by
      unfold Op.shift
      rw [if_neg e1]
      simp only [Int.toNat_natCast, e2, e3, Sem.run_pure]
    simp [execOp, s.eval hx, s.eval hy, eqGuard, binOp, e4])
theorem Y.and {x y : Operand} {t t' : TypeId} {k : IntKind} {a b : Int} (hx : ev f x = some (.int k a)) (hy : ev f y = some (.int k b)) : YieldS P n ops ⟨some d, .binOp .and t x y t', ty, pos, af, none⟩ f A ((.int k (k.wrap ((BitVec.ofInt k.bits a) &&& (BitVec.ofInt k.bits b)).toNat))) :=  Y.of (fun _ w s => by simp [execOp, s.eval hx, s.eval hy, eqGuard, binOp, Op.intBits])
end
theorem opsS_mono {P : Program} {n : Nat} {ops rest : List Oper} {Q Q' : Post} {f : Env} {L : List HP} (h : opsS P n ops rest Q f L) (hq : ∀ e f L, Q e f L → Q' e f L) : opsS P n ops rest Q' f L :=
  fun ok F a w s t => wpList_mono (h ok F a w s t) fun _ _ _ ⟨f, L, s, t, q⟩ => ⟨f, L, s, t, hq _ _ _ q⟩
theorem opsS_cutT {P : Program} {n : Nat} {ops rest : List Oper} {y : Code} {Q : Post} {f : Env} {L : List HP} {σ : Type} (sl : σ → List (Nat × Value)) (H : σ → List HP) (φ : σ → Prop)
    (h : opsS P n ops rest (thenS (fun f L => ∃ s, slots f (sl s) ∧ Ent L (H s) ∧ φ s) Q) f L)
    (hk : ∀ s, φ s → swp P n y Q (updAll (sl s)) (H s)) : opsS P n ops rest (thenS (fun f L => swp P n y Q f L) Q) f L := by
  refine opsS_mono h ?_
  intro e f L q
  cases e <;> first | exact q | (obtain ⟨s, h1, h2, h3⟩ := q; exact swp_keep _ h1 (swp_ent h2 (hk s h3)))
end Go.SX
namespace Go.Proofs.YtkleenllkjodoaaGreatDoor
open Go Go.SX
attribute [local irreducible] swp opsS thenS blockS retS CallsS St Ent YieldS anyS drawS
abbrev VL := List (Int × List Int)
def okR (M : Nat → Option Obj) (ovs : List OV) : Prop := ∀ o ∈ ovs, SlM M o.a o.vec.length 1 (o.vec.map I32)
def lastS (vs : VL) : Int := ((vs.getLast?).map (·.1)).getD 0
def aftN (vs : VL) (st : Int) : Nat := (vs.filter fun v => decide (v.1 ≤ st)).length
end Go.Proofs.YtkleenllkjodoaaGreatDoor
namespace Go.Proofs.YtkleenllkjodoaaGreatDoor
open Go Go.SX
attribute [local irreducible] swp opsS thenS blockS retS CallsS St Ent YieldS anyS drawS
def sortedV (vs : VL) : Prop := (vs.map (·.1)).Pairwise (· < ·)
end Go.Proofs.YtkleenllkjodoaaGreatDoor
namespace Go.Proofs.YtkleenllkjodoaaGreatDoor
open Go Go.SX
attribute [local irreducible] swp opsS thenS blockS retS CallsS St Ent YieldS anyS drawS
section
variable {n : Nat} {ops rest : List Oper} {cd : Code} {Q : Post} {f : Env} {L L0 : List HP} {M : Nat → Option Obj} {vs : VL}
end
end Go.Proofs.YtkleenllkjodoaaGreatDoor
namespace Go.Proofs.YtkleenllkjodoaaGreatDoor
open Go Go.SX
attribute [local irreducible] swp opsS thenS blockS retS CallsS St Ent YieldS anyS drawS
structure IV where
  txn : Int
  after : Int
  a : Option Addr
  c : Nat
  ops : List OV
abbrev IV.cells (i : IV) : List Value := [.int .u64 i.txn, .int .u64 i.after, .slice i.a i.ops.length i.c]
abbrev IV.val (i : IV) : Value := .agg #[.int .u64 i.txn, .int .u64 i.after, .slice i.a i.ops.length i.c]
abbrev IV.abs (i : IV) : Int × Int × VL := (i.txn, i.after, i.ops.map OV.abs)
def RdO (A : List HP) (a : Option Addr) (ops : List OV) : Prop := RdS A a ops.length 2 (ops.flatMap OV.cells) ∧ ∀ o ∈ ops, RdS A o.a o.vec.length 1 (o.vec.map I32)
theorem RdO.sub {A L : List HP} {a : Option Addr} {ops : List OV} (h : RdO A a ops) [s : Sub A L] : RdO L a ops := ⟨h.1.sub, fun o ho => (h.2 o ho).sub⟩
def okI (M : Nat → Option Obj) (i : IV) : Prop := SlM M i.a i.ops.length 2 (i.ops.flatMap OV.cells) ∧ okR M i.ops
theorem okI.mono {M M' : Nat → Option Obj} {i : IV} (h : okI M i) (hl : leM M M') : okI M' i := ⟨h.1.mono hl, fun o ho => (h.2 o ho).mono hl⟩
def holdsV (ops : VL) (id : Int) : Bool := ops.any fun o => decide (o.1 = id)
def badO (dim : Int) (o : Int × List Int) : Bool := decide (1099511627776 < o.1) || (decide (0 < o.2.length) && (!rightV o.2 || decide ((o.2.length : Int) ≠ dim)))
def checkV (dim : Int) (ops : VL) : Int :=
  if dim < 1 ∨ 8 < dim then 1 else if ops.length = 0 then 2 else if 16 < ops.length then 3 else if ops.any (badO dim) then 4 else if (ops.map (·.1)).Nodup then 0 else 7
theorem lkL_put {κ α : Type} [DecidableEq κ] {m : List (κ × α)} (h : keysOK m) (x y : κ) (a : α) : lkL (putL m x a) y = if y = x then some a else lkL m y := by
  rcases keyCase m h x with ⟨p, b, q, rfl, hp, hq⟩ | hn
  · rw [putL_mid hp hq]
    by_cases hxy : y = x
    · subst hxy; rw [if_pos rfl, lkL_mid hp]
    · rw [if_neg hxy]
      unfold lkL
      simp [List.find?_append, List.find?_cons, Ne.symm hxy]
  · rw [putL_none hn]
    by_cases hxy : y = x
    · subst hxy
      rw [if_pos rfl]
      have : m.find? (fun u => decide (u.1 = y)) = none := by simp; exact fun a b hh => hn (a, b) hh
      simp [lkL, List.find?_append, this]
    · rw [if_neg hxy]
      unfold lkL
      simp [List.find?_append, List.find?_cons, Ne.symm hxy]
end Go.Proofs.YtkleenllkjodoaaGreatDoor
namespace Go.SX
open Go
section
variable {P : Program} {n : Nat} {ops rest : List Oper} {Q : Post} {f : Env} {A L : List HP} {d : Tmp} {ty : TypeId} {pos : String} {af : Array Edge}
end
end Go.SX
namespace Go.Proofs.YtkleenllkjodoaaGreatDoor
open Go Go.SX
attribute [local irreducible] swp opsS thenS blockS retS CallsS St Ent YieldS anyS drawS
theorem B_one (xs : List UInt8) : (xs.map B).all (·.oneCell') = true := by simp [B, Value.oneCell']
end Go.Proofs.YtkleenllkjodoaaGreatDoor
namespace Go.Proofs.YtkleenllkjodoaaGreatDoor
open Go Go.SX
attribute [local irreducible] swp opsS thenS blockS retS CallsS St Ent YieldS anyS drawS
structure VS where
  dim : Int
  ch : List (Int × VL)
  its : List (Int × Int × VL)
  mark : Int
abbrev CR := Int × Nat × VL
structure VOK (M : Nat → Option Obj) (st : VS) (cs : List CR) (is : List IV) : Prop where
  ch : cs.map (fun c => (c.1, c.2.2)) = st.ch
  its : is.map IV.abs = st.its
  ok : ∀ i ∈ is, okI M i
  k1 : keysOK st.ch
  k2 : keysOK st.its
section
variable {n : Nat} {ops rest : List Oper} {cd : Code} {Q : Post} {f : Env} {L L0 : List HP} {st : VS}
end
def opsLe (st : VS) : Prop := ∀ i ∈ st.its, i.2.2.length ≤ 1000000
theorem VOK.ops {M : Nat → Option Obj} {st : VS} {cs : List CR} {is : List IV} (h : VOK M st cs is) (hl : opsLe st) : ∀ i ∈ is, i.ops.length ≤ 1000000 := fun i hi => by
  have := hl i.abs (by rw [← h.its]; exact List.mem_map_of_mem hi)
  simpa using this
end Go.Proofs.YtkleenllkjodoaaGreatDoor
namespace Go.Proofs.YtkleenllkjodoaaGreatDoor
open Go Go.SX
attribute [local irreducible] swp opsS thenS blockS retS CallsS St Ent YieldS anyS drawS
theorem lk_none' {κ α : Type} [DecidableEq κ] {m : List (κ × α)} {x : κ} (h : lkL m x = none) : ∀ u ∈ m, u.1 ≠ x := fun u hu e => by
  unfold lkL at h
  rw [Option.map_eq_none_iff, List.find?_eq_none] at h
  exact h u hu (by simpa using e)
def lockE (st : VS) (txn after : Int) (ops : VL) : Int :=
  if 1099511627776 < after then 1 else if checkV st.dim ops ≠ 0 then checkV st.dim ops else if (lkL st.its txn).isSome then 7 else if ops.any fun o => st.its.any fun i => holdsV i.2.2 o.1 then 11 else 0
def lockS (st : VS) (txn after : Int) (ops : VL) : VS := if lockE st txn after ops = 0 then { st with its := st.its ++ [(txn, after, ops)] } else st
end Go.Proofs.YtkleenllkjodoaaGreatDoor
namespace Go.Proofs.YtkleenllkjodoaaGreatDoor
open Go Go.SX
attribute [local irreducible] swp opsS thenS blockS retS CallsS St Ent YieldS anyS drawS
def chV (ch : List (Int × VL)) (id : Int) : VL := (lkL ch id).getD []
def putC (s : Int) (ch : List (Int × VL)) (o : Int × List Int) : List (Int × VL) := putL ch o.1 (chV ch o.1 ++ [(s, o.2)])
def applyC (s : Int) (ch : List (Int × VL)) (ops : VL) : List (Int × VL) := ops.foldl (putC s) ch
def applyE (st : VS) (txn s : Int) : Int :=
  match lkL st.its txn with
  | none => if s = 0 ∨ 1099511627776 < s then 1 else 6
  | some i => if s = 0 ∨ 1099511627776 < s ∨ s ≤ i.1 then 1 else if i.2.any fun o => decide (s ≤ lastS (chV st.ch o.1)) then 7 else if s ≤ st.mark then 12 else 0
def applyS (st : VS) (txn s : Int) : VS :=
  match lkL st.its txn with
  | none => st
  | some i => if applyE st txn s = 0 then { st with ch := applyC s st.ch i.2, its := delL st.its txn } else st
structure WF (st : VS) (n : Nat) : Prop where
  d1 : 1 ≤ st.dim
  d2 : st.dim ≤ 8
  il : st.its.length ≤ n
  io : ∀ i ∈ st.its, i.2.2.length ≤ 16 ∧ (i.2.2.map (·.1)).Nodup ∧ ∀ o ∈ i.2.2, o.2.length ≤ 8 ∧ (0 < o.2.length → rightV o.2 = true)
  cl : st.ch.length ≤ 16 * n
  co : ∀ c ∈ st.ch, sortedV c.2 ∧ c.2.length ≤ n ∧ ∀ v ∈ c.2, v.2.length ≤ 8
theorem WF.ops {st : VS} {n : Nat} (h : WF st n) : opsLe st := fun i hi => by have := (h.io i hi).1; omega
theorem lk_memL {κ α : Type} [DecidableEq κ] {m : List (κ × α)} {x : κ} {a : α} (h : lkL m x = some a) : (x, a) ∈ m := by
  unfold lkL at h
  obtain ⟨p, hp, hx⟩ := Option.map_eq_some_iff.1 h
  have h1 := List.mem_of_find?_eq_some hp
  have h2 := List.find?_some hp
  have h3 : p.1 = x := by simpa using h2
  subst hx h3
  exact h1
theorem putL_ok' {ch : List (Int × VL)} (h : keysOK ch) (s : Int) (o : Int × List Int) : keysOK (putC s ch o) := putL_ok h _ _
theorem applyC_ok {s : Int} : ∀ {ops : VL} {ch : List (Int × VL)}, keysOK ch → keysOK (applyC s ch ops)
  | [], _, h => h
  | o :: ops, _, h => applyC_ok (ops := ops) (putL_ok' h s o)
theorem applyC_len {s : Int} : ∀ {ops : VL} {ch : List (Int × VL)}, keysOK ch → (applyC s ch ops).length ≤ ch.length + ops.length
  | [], _, _ => Nat.le_refl _
  | o :: ops, ch, h => by
    have h1 := applyC_len (s := s) (ops := ops) (putL_ok' h s o)
    have h2 : (putC s ch o).length ≤ ch.length + 1 := by
      unfold putC
      rcases keyCase ch h o.1 with ⟨p, b, q, rfl, hp, hq⟩ | hn
      · rw [putL_mid hp hq]; simp
      · rw [putL_none hn]; simp
    show (applyC s (putC s ch o) ops).length ≤ _
    simp only [List.length_cons]
    omega
structure AtC (ch : List (Int × VL)) (id : Int) (p q : List CR) (b : Nat) (vs : VL) : Prop where
  hv : vs = chV ch id
  hp : ∀ u ∈ p, u.1 ≠ id
  hq : ∀ u ∈ q, u.1 ≠ id
  put : ∀ w, (p ++ (id, b, w) :: q).map (fun c => (c.1, c.2.2)) = putL ch id w
theorem AtC.some {p q : List CR} {id : Int} {b : Nat} {vs : VL} (hp : ∀ u ∈ p, u.1 ≠ id) (hq : ∀ u ∈ q, u.1 ≠ id) : AtC ((p ++ (id, b, vs) :: q).map fun c => (c.1, c.2.2)) id p q b vs := by
  have h1 : ∀ u ∈ p.map (fun c : CR => (c.1, c.2.2)), u.1 ≠ id := fun u hu => by obtain ⟨w, hw, rfl⟩ := List.mem_map.1 hu; exact hp w hw
  have h2 : ∀ u ∈ q.map (fun c : CR => (c.1, c.2.2)), u.1 ≠ id := fun u hu => by obtain ⟨w, hw, rfl⟩ := List.mem_map.1 hu; exact hq w hw
  refine ⟨?_, hp, hq, fun w => ?_⟩
  · unfold chV
    rw [List.map_append, List.map_cons, lkL_mid h1]; rfl
  · rw [List.map_append, List.map_append, List.map_cons, List.map_cons, putL_mid h1 h2]
theorem AtC.none {cs : List CR} {id : Int} {b : Nat} (hn : ∀ u ∈ cs, u.1 ≠ id) : AtC (cs.map fun c => (c.1, c.2.2)) id cs [] b [] := by
  have h1 : ∀ u ∈ cs.map (fun c : CR => (c.1, c.2.2)), u.1 ≠ id := fun u hu => by obtain ⟨w, hw, rfl⟩ := List.mem_map.1 hu; exact hn w hw
  refine ⟨?_, hn, by simp, fun w => ?_⟩
  · unfold chV
    rw [lkL_none h1]; rfl
  · rw [List.map_append, putL_none h1]; rfl
end Go.Proofs.YtkleenllkjodoaaGreatDoor
namespace Go.Proofs.YtkleenllkjodoaaGreatDoor
open Go Go.SX
attribute [local irreducible] swp opsS thenS blockS retS CallsS St Ent YieldS anyS drawS
attribute [local irreducible] opsI
end Go.Proofs.YtkleenllkjodoaaGreatDoor
namespace Go.Proofs.YtkleenllkjodoaaGreatDoor
open Go Go.SX
attribute [local irreducible] swp opsS thenS blockS retS CallsS St Ent YieldS anyS drawS
attribute [local irreducible] ar
end Go.Proofs.YtkleenllkjodoaaGreatDoor
namespace Go.Proofs.YtkleenllkjodoaaGreatDoor
open Go Go.SX
attribute [local irreducible] swp opsS thenS blockS retS CallsS St Ent YieldS anyS drawS
attribute [local irreducible] ar
end Go.Proofs.YtkleenllkjodoaaGreatDoor
namespace Go.Proofs.YtkleenllkjodoaaGreatDoor
open Go Go.SX
attribute [local irreducible] swp opsS thenS blockS retS CallsS St Ent YieldS anyS drawS
attribute [local irreducible] ar
end Go.Proofs.YtkleenllkjodoaaGreatDoor
namespace Go.Proofs.YtkleenllkjodoaaGreatDoor
open Go Go.SX
attribute [local irreducible] swp opsS thenS blockS retS CallsS St Ent YieldS anyS drawS
attribute [local irreducible] ar
end Go.Proofs.YtkleenllkjodoaaGreatDoor
namespace Go.Proofs.YtkleenllkjodoaaGreatDoor
open Go Go.SX
attribute [local irreducible] swp opsS thenS blockS retS CallsS St Ent YieldS anyS drawS
attribute [local irreducible] ar
end Go.Proofs.YtkleenllkjodoaaGreatDoor
namespace Go.Proofs.YtkleenllkjodoaaGreatDoor
open Go Go.SX
attribute [local irreducible] swp opsS thenS blockS retS CallsS St Ent YieldS anyS drawS
attribute [local irreducible] ar
end Go.Proofs.YtkleenllkjodoaaGreatDoor
namespace Go.Proofs.YtkleenllkjodoaaGreatDoor
open Go Go.SX
attribute [local irreducible] swp opsS thenS blockS retS CallsS St Ent YieldS anyS drawS
attribute [local irreducible] ar
end Go.Proofs.YtkleenllkjodoaaGreatDoor
namespace Go.Proofs.YtkleenllkjodoaaGreatDoor
open Go Go.SX
attribute [local irreducible] swp opsS thenS blockS retS CallsS St Ent YieldS anyS drawS
attribute [local irreducible] ar
end Go.Proofs.YtkleenllkjodoaaGreatDoor
namespace Go.Proofs.YtkleenllkjodoaaGreatDoor
open Go Go.SX
attribute [local irreducible] swp opsS thenS blockS retS CallsS St Ent YieldS anyS drawS
attribute [local irreducible] ar
end Go.Proofs.YtkleenllkjodoaaGreatDoor
namespace Go.Proofs.YtkleenllkjodoaaGreatDoor
open Go Go.SX
attribute [local irreducible] swp opsS thenS blockS retS CallsS St Ent YieldS anyS drawS
attribute [local irreducible] ar
end Go.Proofs.YtkleenllkjodoaaGreatDoor
namespace Go.Proofs.YtkleenllkjodoaaGreatDoor
open Go Go.SX
attribute [local irreducible] swp opsS thenS blockS retS CallsS St Ent YieldS anyS drawS
def sortL (xs : List Int) : List Int := xs.mergeSort fun x y => decide (x ≤ y)
theorem sortL_perm (xs : List Int) : (sortL xs).Perm xs := List.mergeSort_perm _ _
theorem sortL_sorted (xs : List Int) : (sortL xs).Pairwise (· ≤ ·) := by
  have := List.pairwise_mergeSort (le := fun x y : Int => decide (x ≤ y)) (fun a b c h1 h2 => by simp at *; omega) (fun a b => by simp; omega) xs
  exact this.imp fun h => by simpa using h
theorem sorted_uniq : ∀ {l1 l2 : List Int}, l1.Perm l2 → l1.Pairwise (· ≤ ·) → l2.Pairwise (· ≤ ·) → l1 = l2
  | [], l2, h, _, _ => by simpa using h
  | x :: l1, [], h, _, _ => by simp at h
  | x :: l1, y :: l2, h, h1, h2 => by
    have hx : x ∈ y :: l2 := h.subset (by simp)
    have hy : y ∈ x :: l1 := h.symm.subset (by simp)
    have e : x = y := by
      rcases List.mem_cons.1 hx with e | hx
      · exact e
      · rcases List.mem_cons.1 hy with e | hy
        · exact e.symm
        · have a := (List.pairwise_cons.1 h2).1 x hx
          have b := (List.pairwise_cons.1 h1).1 y hy
          omega
    subst e
    rw [sorted_uniq ((List.perm_cons x).1 h) (List.pairwise_cons.1 h1).2 (List.pairwise_cons.1 h2).2]
end Go.Proofs.YtkleenllkjodoaaGreatDoor
namespace Go.Proofs.YtkleenllkjodoaaGreatDoor
open Go Go.SX
attribute [local irreducible] swp opsS thenS blockS retS CallsS St Ent YieldS anyS drawS
end Go.Proofs.YtkleenllkjodoaaGreatDoor
namespace Go.Proofs.YtkleenllkjodoaaGreatDoor
open Go Go.SX
attribute [local irreducible] swp opsS thenS blockS retS CallsS St Ent YieldS anyS drawS
end Go.Proofs.YtkleenllkjodoaaGreatDoor
namespace Go.Proofs.YtkleenllkjodoaaGreatDoor
open Go Go.SX
attribute [local irreducible] swp opsS thenS blockS retS CallsS St Ent YieldS anyS drawS
def fewV (k : Nat) (ops : VL) : VL := (ops.take k).map fun o => (o.1, o.2.take 10)
end Go.Proofs.YtkleenllkjodoaaGreatDoor
namespace Go.Proofs.YtkleenllkjodoaaGreatDoor
open Go Go.SX
attribute [local irreducible] swp opsS thenS blockS retS CallsS St Ent YieldS anyS drawS
end Go.Proofs.YtkleenllkjodoaaGreatDoor
namespace Go.Proofs.YtkleenllkjodoaaGreatDoor
open Go Go.SX
attribute [local irreducible] swp opsS thenS blockS retS CallsS St Ent YieldS anyS drawS
structure EV where
  id : Int
  a : Option Addr
  c : Nat
  vs : List OV
abbrev EV.cells (e : EV) : List Value := [.int .u64 e.id, .slice e.a e.vs.length e.c]
abbrev EV.abs (e : EV) : Int × VL := (e.id, e.vs.map OV.abs)
def okE (M : Nat → Option Obj) (e : EV) : Prop := SlM M e.a e.vs.length 2 (e.vs.flatMap OV.cells) ∧ okR M e.vs
theorem okE.mono {M M' : Nat → Option Obj} {e : EV} (h : okE M e) (hl : leM M M') : okE M' e := ⟨h.1.mono hl, fun o ho => (h.2 o ho).mono hl⟩
structure ROK (M : Nat → Option Obj) (st : VS) (a : Option Addr) (c : Nat) (es : List EV) (a' : Option Addr) (c' : Nat) (is : List IV) : Prop where
  ch : (es.map EV.abs).Perm st.ch
  cs : (es.map (·.id)).Pairwise (· < ·)
  its : (is.map IV.abs).Perm st.its
  ss : (is.map (·.txn)).Pairwise (· < ·)
  oe : ∀ e ∈ es, okE M e
  oi : ∀ i ∈ is, okI M i
  sE : SlM M a es.length 2 (es.flatMap EV.cells)
  sI : SlM M a' is.length 3 (is.flatMap IV.cells)
  cE : es.length ≤ c
  cI : is.length ≤ c'
  k1 : keysOK st.ch
  k2 : keysOK st.its
  oc : ∀ i ∈ is, ∀ o ∈ i.ops, o.vec.length ≤ o.c
structure RX where
  a : Option Addr
  c : Nat
  es : List EV
  a' : Option Addr
  c' : Nat
  is : List IV
  M : Nat → Option Obj
section
variable {n : Nat} {ops rest : List Oper} {cd : Code} {Q : Post} {f : Env} {L L0 : List HP} {st : VS}
end
end Go.Proofs.YtkleenllkjodoaaGreatDoor
namespace Go.Proofs.YtkleenllkjodoaaGreatDoor
open Go Go.SX
attribute [local irreducible] swp opsS thenS blockS retS CallsS St Ent YieldS anyS drawS
theorem flat_take {α : Type} {g : α → List Value} {sz : Nat} (hg : ∀ x, (g x).length = sz) : ∀ (l : List α) (k : Nat), (l.flatMap g).take (k * sz) = (l.take k).flatMap g
  | [], k => by simp
  | x :: l, 0 => by simp
  | x :: l, k + 1 => by
    rw [List.flatMap_cons, List.take_succ_cons, List.flatMap_cons, ← flat_take hg l k, Nat.add_mul, Nat.one_mul, Nat.add_comm, ← hg x, List.take_length_add_append]
theorem flat_drop {α : Type} {g : α → List Value} {sz : Nat} (hg : ∀ x, (g x).length = sz) : ∀ (l : List α) (k : Nat), (l.flatMap g).drop (k * sz) = (l.drop k).flatMap g
  | [], k => by simp
  | x :: l, 0 => by simp
  | x :: l, k + 1 => by
    rw [List.flatMap_cons, List.drop_succ_cons, ← flat_drop hg l k, Nat.add_mul, Nat.one_mul, Nat.add_comm, ← hg x, List.drop_length_add_append]
theorem lkL_iff {κ α : Type} [DecidableEq κ] {m : List (κ × α)} (h : keysOK m) {x : κ} {a : α} : lkL m x = some a ↔ (x, a) ∈ m := by
  refine ⟨lk_memL, fun hm => ?_⟩
  rcases keyCase m h x with ⟨p, b, q, rfl, hp, hq⟩ | hn
  · rw [lkL_mid hp]
    rcases List.mem_append.1 hm with hm | hm
    · exact absurd rfl (hp _ hm)
    rcases List.mem_cons.1 hm with hm | hm
    · cases hm; rfl
    · exact absurd rfl (hq _ hm)
  · exact absurd rfl (hn _ hm)
theorem pw_filter {α : Type} {key : α → Int} {l : List α} (h : (l.map key).Pairwise (· < ·)) (p : α → Bool) : ((l.filter p).map key).Pairwise (· < ·) := by
  rw [List.pairwise_map] at h ⊢
  exact h.filter p
theorem ROK.len {M : Nat → Option Obj} {st : VS} {a a' : Option Addr} {c c' : Nat} {es : List EV} {is : List IV} (h : ROK M st a c es a' c' is) : is.length = st.its.length ∧ es.length = st.ch.length := by
  have h1 := h.its.length_eq
  have h2 := h.ch.length_eq
  simp at h1 h2
  exact ⟨h1, h2⟩
end Go.Proofs.YtkleenllkjodoaaGreatDoor
namespace Go.Proofs.YtkleenllkjodoaaGreatDoor
open Go Go.SX
attribute [local irreducible] swp opsS thenS blockS retS CallsS St Ent YieldS anyS drawS
end Go.Proofs.YtkleenllkjodoaaGreatDoor
namespace Go.SX
open Go
theorem slO_cap {t sz m c : Nat} {a : Option Addr} {cs : List Value} {L : List HP} : Ent (slO t sz a m c cs :: L) (pureH (m ≤ c) :: slO t sz a m c cs :: L) := fun w F H => by
  have hc : m ≤ c := UpdS.cap (a := a) (L := slO t sz a m c cs :: L) inferInstance H
  have e : Ent (slO t sz a m c cs :: L) (pureH (m ≤ c) :: slO t sz a m c cs :: L) := Ent.shut_pure hc
  exact e w F H
end Go.SX
namespace Go.Proofs.YtkleenllkjodoaaGreatDoor
open Go Go.SX
attribute [local irreducible] swp opsS thenS blockS retS CallsS St Ent YieldS anyS drawS
theorem keys_snoc {κ α : Type} [DecidableEq κ] {m : List (κ × α)} (h : keysOK m) {x : κ} (a : α) (hx : lkL m x = none) : keysOK (m ++ [(x, a)]) := by
  have hn := lk_none' hx
  unfold keysOK
  rw [List.map_append, List.nodup_append]
  refine ⟨h, by simp, fun y hy z hz => ?_⟩
  simp at hz
  subst hz
  obtain ⟨u, hu, rfl⟩ := List.mem_map.1 hy
  exact hn u hu
theorem check_ok {dim : Int} {ops : VL} (h : checkV dim ops = 0) : 1 ≤ dim ∧ dim ≤ 8 ∧ 1 ≤ ops.length ∧ ops.length ≤ 16 ∧ (ops.map (·.1)).Nodup ∧ ∀ o ∈ ops, o.2.length ≤ 8 ∧ (0 < o.2.length → rightV o.2 = true) := by
  unfold checkV at h
  by_cases h1 : dim < 1 ∨ 8 < dim
  · rw [if_pos h1] at h; cases h
  rw [if_neg h1] at h
  by_cases h3 : ops.length = 0
  · rw [if_pos h3] at h; cases h
  rw [if_neg h3] at h
  by_cases h4 : 16 < ops.length
  · rw [if_pos h4] at h; cases h
  rw [if_neg h4] at h
  by_cases h5 : ops.any (badO dim) = true
  · rw [if_pos h5] at h; cases h
  rw [if_neg h5] at h
  by_cases h6 : (ops.map (·.1)).Nodup
  · refine ⟨by omega, by omega, by omega, by omega, h6, fun o ho => ?_⟩
    have hb : badO dim o = false := by
      cases hb : badO dim o with
      | false => rfl
      | true => exact absurd (List.any_eq_true.2 ⟨o, ho, hb⟩) h5
    unfold badO at hb
    simp only [Bool.or_eq_false_iff, Bool.and_eq_false_iff, decide_eq_false_iff_not, Bool.not_eq_false', Decidable.not_not] at hb
    obtain ⟨_, hb⟩ := hb
    rcases hb with hb | hb
    · exact ⟨by omega, fun h => absurd h hb⟩
    · exact ⟨by omega, fun _ => hb.1⟩
  · rw [if_neg h6] at h; cases h
def subA (a : Option Addr) (c l sz : Nat) : Option Addr := if l = 0 then a else a.map fun ad => ⟨ad.block, if c = l then ad.off else ad.off + l * sz, ad.spot⟩
section
variable {P : Program} {n : Nat} {ops : List Oper} {f : Env} {A : List HP} {d : Tmp} {ty : TypeId} {pos : String} {af : Array Edge}
theorem Y.slFa {x lo : Operand} {t e : TypeId} {a : Option Addr} {m c sz bts l : Nat} {ag : Bool} {zs : List Value} {i : Int} {kl : IntKind} [hs : SlTy P t e] [h2 : Ty P e ag sz zs bts] (hx : ev f x = some (.slice a m c))
    (hl : ev f lo = some (.int kl i)) (el : i = (l : Int)) (h1 : l ≤ m) (ha : m = 0 ∨ ∃ b o, a = some ⟨b, o, none⟩) : YieldS P n ops ⟨some d, .slice t x (some lo) none none, ty, pos, af, none⟩ f A (.slice (subA a c l sz) (m - l) (c - l)) := by
  by_cases h0 : l = 0
  · subst h0
    unfold subA
    rw [if_pos rfl, Nat.sub_zero, Nat.sub_zero]
    cases a with
    | none =>
      rcases ha with rfl | ⟨b, o, h⟩
      · exact Y.slFn (hs := hs) (h2 := h2) hx hl el
      · cases h
    | some ad =>
      refine Y.of (fun ac w s => ?_)
      subst el
      have e1 : ∀ ad : Addr, ad.add 0 = ad := fun _ => rfl
      by_cases hc : c = 0 <;> simp [execOp, s.eval hx, s.eval hl, Instr.sliceAt, hs.und, Instr.slice, Instr.sliceBounds, h2.size, Instr.sliceBound, asIntOf, hc, e1]
  · rcases ha with rfl | ⟨b, o, rfl⟩
    · omega
    · unfold subA
      rw [if_neg h0]
      exact Y.slF (hs := hs) (h2 := h2) hx hl el h1
end
theorem SlM.at {M : Nat → Option Obj} {a : Option Addr} {m sz : Nat} {cs : List Value} (h : SlM M a m sz cs) : m = 0 ∨ ∃ b o, a = some ⟨b, o, none⟩ := by
  have := h.rd (L := [roM M])
  rcases this.2 with h3 | ⟨b, o, h3, _⟩
  · exact .inl h3
  · exact .inr ⟨b, o, h3⟩
end Go.Proofs.YtkleenllkjodoaaGreatDoor
namespace Go.SX
open Go
section
variable {P : Program} {n : Nat} {ops rest : List Oper} {Q : Post} {f : Env} {A L : List HP}
variable {d : Tmp} {ty : TypeId} {pos : String} {af : Array Edge}
theorem run_copy_sz {w : World} {dT sT ty e t0 : TypeId} {b o dl dc k kc sz : Nat} {a : Addr} {cs l : List Value} (hu : P.underlying dT = some (.slice e)) (hs : ∀ w, (sizeOf e).run P w = .ok sz w)
    (hn : cs.length = min k dl * sz) (hrow : w.heap[b]? = some (cl l t0)) (hl : o + cs.length ≤ l.length) (hsrc : ∀ j v, cs[j]? = some v → w.cell? (a.add j) = some v) (h1 : ∀ v ∈ cs, v.oneCell' = true) :
    (Builtin.copy_ #[dT, sT] ty #[.slice (some ⟨b, o, none⟩) dl dc, .slice (some a) k kc]).run P w = .ok (goInt (min k dl : Nat)) (w.setRow b (putAt l o cs).toArray) := by
  have hld := run_loadCells_list (P := P) w a cs hsrc
  have hst := run_storeCells_at P b o t0 cs 0 l.toArray w hrow (by simpa using hl) h1
  rw [hn] at hld
  simp only [Nat.add_zero] at hst
  have hp : putAt l o cs = List.take o l ++ cs ++ List.drop (o + cs.length) l := rfl
  rw [hp]
  have hm : Nat.min k dl = min k dl := rfl
  simp [Builtin.copy_, run_underlying hu, Builtin.lenOf, Builtin.firstCells, hs, hm, hld, hst]
theorem S.cpy {x y : Operand} {t tx e t0 : TypeId} {sz bts : Nat} {ag : Bool} {zs : List Value} {b o dl dc b2 o2 k kc : Nat} {l l' ys : List Value} {L' : Obj → List HP} [h : SlTy P t e] [h2 : Ty P e ag sz zs bts] [hu : UpdB b L (cl l t0) L']
    (hx : ev f x = some (.slice (some ⟨b, o, none⟩) dl dc)) (hy : ev f y = some (.slice (some ⟨b2, o2, none⟩) k kc)) (hr : RdC L b2 o2 ys) (hn : ys.length = min k dl * sz) (hl : o + ys.length ≤ l.length) (h1 : ys.all (·.oneCell') = true) (hl' : putAt l o ys = l')
    (hk : opsS P n ops rest Q (upd f d (.int .i64 (min k dl : Nat))) (L' (cl l' t0))) :
    opsS P n ops (⟨some d, .call ⟨.builtin .copy, #[x, y], #[t, tx]⟩, ty, pos, af, none⟩ :: rest) Q f L := by
  refine opsS_value (R := fun v L1 => v = .int .i64 (min k dl : Nat) ∧ L1 = L' (cl l' t0)) (fun F ac w s t1 => ?_) (by rintro _ _ ⟨rfl, rfl⟩; exact hk)
  have hrow := hu.read t1
  have hrun := run_copy_sz (P := P) (w := w) (dT := t) (sT := tx) (ty := ty) (e := e) (t0 := t0) (b := b) (o := o) (dl := dl) (dc := dc) (k := k) (kc := kc) (sz := sz) (a := ⟨b2, o2, none⟩) (cs := ys) (l := l) h.raw h2.size hn hrow hl (fun j v e => by
    have := hr w F t1 j v e
    have e2 : (⟨b2, o2, none⟩ : Addr).add j = ⟨b2, o2 + j, none⟩ := by unfold Addr.add; split <;> simp_all
    rw [e2]; exact this) (fun v hv => by simpa using List.all_eq_true.1 h1 v hv)
  refine ⟨_, w.setRow b l'.toArray, _, ?_, setRow_heap_of hrow t1, rfl, rfl⟩
  rw [← hl']
  simp [execOp, resolve, invoke, s.eval hx, s.eval hy, builtin, hrun, goInt]
end
end Go.SX
namespace Go.SX
open Go
section
variable {P : Program} {n : Nat} {ops rest : List Oper} {cd : Code} {Q : Post} {f : Env} {L L0 L1 L2 : List HP} {d : Tmp} {ty : TypeId} {pos : String} {af : Array Edge} {A B C : HP} {g : FuncId} {xs : Array Operand} {ats : Array TypeId} {args : List Value} {R : Value → List HP → Prop}
theorem S.c1 [he : Enters P g] (hx : argsL f xs.toList = some args) (hc : CallsS P g args (A :: L0) R) [h1 : Pick A L L0] (hk : ∀ v L', R v L' → opsS P n ops rest Q (upd f d v) L') :
    opsS P n ops (⟨some d, .call ⟨.value (.func g), xs, ats⟩, ty, pos, af, none⟩ :: rest) Q f L := opsS_ent h1.ent (S.cr hx hc hk)
theorem S.c2 [he : Enters P g] (hx : argsL f xs.toList = some args) (hc : CallsS P g args (A :: B :: L1) R) [h1 : Pick A L L0] [h2 : Pick B L0 L1] (hk : ∀ v L', R v L' → opsS P n ops rest Q (upd f d v) L') :
    opsS P n ops (⟨some d, .call ⟨.value (.func g), xs, ats⟩, ty, pos, af, none⟩ :: rest) Q f L := opsS_ent (h1.ent.trans h2.ent.cons) (S.cr hx hc hk)
theorem S.c3 [he : Enters P g] (hx : argsL f xs.toList = some args) (hc : CallsS P g args (A :: B :: C :: L2) R) [h1 : Pick A L L0] [h2 : Pick B L0 L1] [h3 : Pick C L1 L2] (hk : ∀ v L', R v L' → opsS P n ops rest Q (upd f d v) L') :
    opsS P n ops (⟨some d, .call ⟨.value (.func g), xs, ats⟩, ty, pos, af, none⟩ :: rest) Q f L := opsS_ent (h1.ent.trans (h2.ent.trans h3.ent.cons).cons) (S.cr hx hc hk)
end
end Go.SX
namespace Go.SX
open Go
section
variable {P : Program} {n : Nat} {ops rest : List Oper} {Q : Post} {f : Env} {A L : List HP} {d : Tmp} {ty : TypeId} {pos : String} {af : Array Edge}
theorem S.cpy0 {x y : Operand} {t tx e : TypeId} {sz bts : Nat} {ag : Bool} {zs : List Value} {b o dl dc kc : Nat} {a : Option Addr} [h : SlTy P t e] [h2 : Ty P e ag sz zs bts]
    (hx : ev f x = some (.slice (some ⟨b, o, none⟩) dl dc)) (hy : ev f y = some (.slice a 0 kc)) (hk : opsS P n ops rest Q (upd f d (.int .i64 0)) L) :
    opsS P n ops (⟨some d, .call ⟨.builtin .copy, #[x, y], #[t, tx]⟩, ty, pos, af, none⟩ :: rest) Q f L := by
  refine opsS_value (R := fun v L1 => v = .int .i64 0 ∧ L1 = L) (fun F ac w s t1 => ?_) (by rintro _ _ ⟨rfl, rfl⟩; exact hk)
  have hst : (storeCells ⟨b, o, none⟩ []).run P w = .ok () w := rfl
  have hrun : (Builtin.copy_ #[t, tx] ty #[.slice (some ⟨b, o, none⟩) dl dc, .slice a 0 kc]).run P w = .ok (goInt 0) w := by
    cases a with
    | none => simp [Builtin.copy_, run_underlying h.raw, Builtin.lenOf, Builtin.firstCells, h2.size, hst]
    | some ad =>
      have hld := run_loadCells_list (P := P) w ad [] (fun j v e => by simp at e)
      simp only [List.length_nil] at hld
      simp [Builtin.copy_, run_underlying h.raw, Builtin.lenOf, Builtin.firstCells, h2.size, hld, hst]
  refine ⟨_, w, _, ?_, t1, rfl, rfl⟩
  simp [execOp, resolve, invoke, s.eval hx, s.eval hy, builtin, hrun, goInt]
end
theorem SlM.fromA {M : Nat → Option Obj} {a : Option Addr} {m c l sz : Nat} {cs : List Value} (h : SlM M a m sz cs) (h1 : l ≤ m) (h2 : m ≤ c) : SlM M (Go.Proofs.YtkleenllkjodoaaGreatDoor.subA a c l sz) (m - l) sz (cs.drop (l * sz)) := by
  by_cases h0 : l = 0
  · subst h0
    unfold Go.Proofs.YtkleenllkjodoaaGreatDoor.subA
    rw [if_pos rfl, Nat.zero_mul, List.drop_zero]
    exact h
  · refine ⟨by rw [List.length_drop, h.1, Nat.sub_mul], ?_⟩
    rcases h.2 with h3 | ⟨b, o, l', t, fz, e, e1, e2⟩
    · omega
    · by_cases hc : c = l
      · exact .inl (by omega)
      · subst e
        unfold Go.Proofs.YtkleenllkjodoaaGreatDoor.subA
        rw [if_neg h0]
        refine .inr ⟨b, o + l * sz, l', t, fz, by simp [hc], e1, fun j v hj => ?_⟩
        rw [List.getElem?_drop] at hj
        have := e2 _ v hj
        rwa [← Nat.add_assoc] at this
end Go.SX
namespace Go.Proofs.YtkleenllkjodoaaGreatDoor
open Go Go.SX
attribute [local irreducible] swp opsS thenS blockS retS CallsS St Ent YieldS anyS drawS
end Go.Proofs.YtkleenllkjodoaaGreatDoor
namespace Go.Proofs.YtkleenllkjodoaaGreatDoor
open Go Go.SX
attribute [local irreducible] swp opsS thenS blockS retS CallsS St Ent YieldS anyS drawS
end Go.Proofs.YtkleenllkjodoaaGreatDoor
namespace Go.Proofs.YtkleenllkjodoaaGreatDoor
open Go Go.SX
attribute [local irreducible] swp opsS thenS blockS retS CallsS St Ent YieldS anyS drawS
theorem Bs_take (bs : List UInt8) (k : Nat) : (bs.map B).take (k * 1) = (bs.take k).map B := by rw [Nat.mul_one, List.map_take]
set_option maxHeartbeats 400000 in
theorem RCut_spec (a : Option Addr) (c : Nat) (bs : List UInt8) (n : Nat) (L : List HP) (h : RdS L a bs.length 1 (bs.map B)) (hc : bs.length ≤ c) (hn : n ≤ 1000000) :
    CallsS Tryz.prog 19 [.slice a bs.length c, .int .i64 n] L (fun v L' => ∃ a' c', v = .slice a' (bs.take n).length c' ∧ L' = slO 5 1 a' (bs.take n).length c' ((bs.take n).map B) :: L) := by
  refine CallsS.of_body Tryz.func19 rfl rfl rfl ?_
  repeat (first | (refine GQ.y ?_; refine Q.y ?_) | refine Q.go ?_ | (refine GQ.g ?_; refine Q.gq ?_) | (refine GQ.s ?_; refine Q.st ?_))
  refine S.bs rfl rfl rfl rfl rfl (fun b => ?_)
  refine opsS_ent (slO_fold (sz := 1) (m := 0) rfl) ?_
  repeat (first | (refine GQ.y ?_; refine Q.y ?_) | refine Q.go ?_ | (refine GQ.g ?_; refine Q.gq ?_) | (refine GQ.s ?_; refine Q.st ?_))
  have hl : (bs.take n).length = min bs.length n := by rw [List.length_take, Nat.min_comm]
  refine S.y (Y.slT (h := (bs.take n).length) rfl rfl (by rw [hl]; omega) (by omega)) ?_
  repeat (first | (refine GQ.y ?_; refine Q.y ?_) | refine Q.go ?_ | (refine GQ.g ?_; refine Q.gq ?_) | (refine GQ.s ?_; refine Q.st ?_))
  have ht := h.take (k := (bs.take n).length) (by omega)
  rw [Bs_take, show bs.take (bs.take n).length = bs.take n by rw [List.length_take]; simp] at ht
  refine S.app0 rfl rfl rfl (SrcS.rd ht.sub (B_one _)) (by rfl) (by omega) (by omega) (fun a' c' => ?_)
  repeat (first | (refine GQ.y ?_; refine Q.y ?_) | refine Q.go ?_ | (refine GQ.g ?_; refine Q.gq ?_) | (refine GQ.s ?_; refine Q.st ?_))
  refine N.r1 (RV.tmp rfl RV.nil) ?_ ⟨a', c', rfl, rfl⟩
  repeat (first | exact Ent.refl _ | exact Ent.nil | refine Ent.pick ?_ | refine Ent.nilS ?_ | refine Ent.nilM ?_ | refine Ent.drop ?_)
end Go.Proofs.YtkleenllkjodoaaGreatDoor
namespace Go.SX
open Go
def dlA (ds : List Deferred) (a : Act) : Act := { a with defers := a.defers ++ ds }
theorem dlA_put (ds : List Deferred) (a : Act) (d : Option Tmp) (v : Value) : dlA ds (a.put d v) = (dlA ds a).put d v := by cases d <;> rfl
theorem dlA_eval (ds : List Deferred) (a : Act) : (dlA ds a).eval = a.eval := by funext x; cases x <;> rfl
theorem wpListIn_dl {F : Fence} {n : Nat} {P : Program} {ops : Array Oper} {Q Q' : Exit → Act → World → Prop} (ds : List Deferred) (hq : ∀ a w, Q' .normal a w → Q .normal (dlA ds a) w) (hn : ∀ e a w, Q' e a w → e = .normal) :
    ∀ (rest : List Oper) (a : Act) (w : World), wpListIn F n P ops Q' rest a w → wpListIn F n P ops Q rest (dlA ds a) w
  | [], a, w, h => hq a w h
  | o :: rest, a, w, h => by
    have ih : ∀ a w, wpListIn F n P ops Q' rest a w → wpListIn F n P ops Q rest (dlA ds a) w := wpListIn_dl ds hq hn rest
    simp only [wpListIn] at h ⊢
    have e1 : (dlA ds a).tmps = a.tmps := rfl
    rw [e1, dlA_eval]
    split
    · next hw =>
      rw [if_pos hw] at h
      refine ⟨by rw [dlA_eval]; exact h.1, ?_⟩
      have h2 := h.2
      rw [dlA_eval]
      have put : ∀ d v w', wpListIn F n P ops Q' rest (a.put d v) w' → wpListIn F n P ops Q rest ((dlA ds a).put d v) w' := fun d v w' q => by rw [← dlA_put]; exact ih _ _ q
      generalize (o.semAt F.round a.eval).run P w = res at *
      cases res with
      | ok m w' =>
        cases m with
        | value v => exact put _ _ _ h2
        | skip => exact put _ _ _ h2
        | defer d =>
          have := ih _ _ h2
          rw [dlA_put] at this
          exact this
        | enter f args =>
          refine ⟨h2.1, CallsIn.mono h2.2 fun e w'' q => ?_⟩
          cases e with
          | returned v => exact put _ _ _ q
          | panicked c => exact absurd (hn _ _ _ q) (by simp)
          | outgrown => obtain ⟨_, _, q⟩ := q; exact absurd (hn _ _ _ q) (by simp)
        | row row args => exact ⟨h2.1, RowsIn.mono h2.2 fun v w'' q => put _ _ _ q⟩
        | round l f tmps assign body =>
          refine ⟨h2.1, RoundIn.mono h2.2 fun e w'' q => ?_⟩
          cases e with
          | returned v => exact put _ _ _ q
          | panicked c => exact absurd (hn _ _ _ q) (by simp)
          | outgrown => obtain ⟨_, _, q⟩ := q; exact absurd (hn _ _ _ q) (by simp)
        | _ => exact h2
      | halt x w' =>
        cases x with
        | panic v => exact absurd (hn _ _ _ h2) (by simp)
        | _ => exact h2
    · next hw =>
      rw [if_neg hw] at h
      exact ⟨h.1, by rw [← dlA_put]; exact ih _ _ h.2⟩
theorem wpIn_tail {P : Program} {n m : Nat} {f : Env} {L F : List HP} {id : Nat} {l : List Oper} {y : Code} {K : Env → List HP → Prop} {Q : Exit → Act → World → Prop} {a : Act} {w : World} (ds : List Deferred) (h : opsI P n none l l (thenS K (fun _ _ _ => False)) f L) (ok : okOps n l = true) (s : Sim n a f) (t : St w (L ++ F))
    (hk : ∀ f L a w, K f L → Sim n a f → St w (L ++ F) → y.wpIn Fence.wide m P Q { a with defers := ds } w) : (Code.seq (.region id l.toArray false) y).wpIn Fence.wide m P Q { a with defers := ds } w := by
  have h1 := h ok F a w s t
  have hd : ({ a with defers := ds } : Act) = dlA ds a := by unfold dlA; rw [s.defers]; rfl
  refine wpIn_seq ?_
  rw [hd]
  have h2 : (Code.region id l.toArray false).wpIn (WF none) 0 P (fun e a w => e.then (fun a w => y.wpIn Fence.wide m P Q a w) Q a w) (dlA ds a) w := by
    refine wpIn_region_lit (wpListIn_dl ds (fun a w q => ?_) (fun e a w q => ?_) l a w h1)
    · obtain ⟨f, L, s, t, q⟩ := q
      have : ({ a with defers := ds } : Act) = dlA ds a := by unfold dlA; rw [s.defers]; rfl
      simp only [Exit.then]
      rw [← this]
      exact hk f L a w q s t
    · obtain ⟨f, L, s, t, q⟩ := q
      cases e <;> first | rfl | exact q.elim
  exact wpIn_wide.2 (wpIn_wide.1 h2)
end Go.SX
namespace Go.SX
open Go
def nibT : List Nat := [0, 498536548, 997073096, 651767980, 1994146192, 1802195444, 1303535960, 1342533948, 3988292384, 4027552580, 3604390888, 3412177804, 2607071920, 2262029012, 2685067896, 3183342108]
def nibV (c : Nat) : Nat := nibT.getD c 0
def h1 (c : Nat) : Nat := if c % 2 = 1 then (c >>> 1) ^^^ 3988292384 else c >>> 1
def hN : Nat → Nat → Nat
  | 0, c => c
  | k + 1, c => hN k (h1 c)
def nib1 (c : Nat) : Nat := (c >>> 4) ^^^ nibV (c &&& 15)
def crcS (c : Nat) (b : UInt8) : Nat := nib1 (nib1 (c ^^^ b.toNat))
def crcF (c : Nat) (bs : List UInt8) : Nat := bs.foldl crcS c
def crcB (bs : List UInt8) : Nat := crcF 4294967295 bs ^^^ 4294967295
def bit1 (b c i : Nat) : Nat := if c &&& 1 ≠ (b >>> i) &&& 1 then (c >>> 1) ^^^ 3988292384 else c >>> 1
theorem xor_mod2 (a b : Nat) : (a ^^^ b) % 2 = (a % 2 + b % 2) % 2 := by
  have h := Nat.testBit_xor a b 0
  simp only [Nat.testBit_zero] at h
  have ha := Nat.mod_two_eq_zero_or_one a
  have hb := Nat.mod_two_eq_zero_or_one b
  have hc := Nat.mod_two_eq_zero_or_one (a ^^^ b)
  rcases ha with ha | ha <;> rcases hb with hb | hb <;> rcases hc with hc | hc <;> rw [ha, hb, hc] at h <;> simp at h <;> rw [ha, hb, hc]
theorem shr_xor (a b k : Nat) : (a ^^^ b) >>> k = (a >>> k) ^^^ (b >>> k) := Nat.shiftRight_xor_distrib
theorem h1_xor (a b : Nat) : h1 (a ^^^ b) = h1 a ^^^ h1 b := by
  unfold h1
  rw [shr_xor, xor_mod2]
  have ha := Nat.mod_two_eq_zero_or_one a
  have hb := Nat.mod_two_eq_zero_or_one b
  rcases ha with ha | ha <;> rcases hb with hb | hb <;> rw [ha, hb] <;> simp
  · rw [Nat.xor_assoc]
  · rw [Nat.xor_assoc, Nat.xor_assoc, Nat.xor_comm (b >>> 1)]
  · rw [show a >>> 1 ^^^ 3988292384 ^^^ (b >>> 1 ^^^ 3988292384) = (a >>> 1 ^^^ b >>> 1) ^^^ (3988292384 ^^^ 3988292384) from by
      rw [Nat.xor_assoc, Nat.xor_assoc, ← Nat.xor_assoc 3988292384, Nat.xor_comm 3988292384 (b >>> 1), Nat.xor_assoc (b >>> 1)]]
    simp
theorem hN_xor : ∀ (k a b : Nat), hN k (a ^^^ b) = hN k a ^^^ hN k b
  | 0, _, _ => rfl
  | k + 1, a, b => by
    show hN k (h1 (a ^^^ b)) = _
    rw [h1_xor, hN_xor k]; rfl
theorem hN_shl : ∀ (k x : Nat), hN k (x <<< k) = x
  | 0, x => by simp [hN]
  | k + 1, x => by
    show hN k (h1 (x <<< (k + 1))) = x
    have e : h1 (x <<< (k + 1)) = x <<< k := by
      unfold h1
      have hm : (x <<< (k + 1)) % 2 = 0 := by
        rw [Nat.shiftLeft_eq, Nat.pow_succ, ← Nat.mul_assoc]; omega
      rw [hm, if_neg (by decide), Nat.shiftLeft_succ, Nat.shiftRight_eq_div_pow]
      omega
    rw [e]; exact hN_shl k x
theorem split4 (c : Nat) : c = ((c >>> 4) <<< 4) ^^^ (c &&& 15) := by
  apply Nat.eq_of_testBit_eq
  intro i
  rw [Nat.testBit_xor, Nat.testBit_shiftLeft, Nat.testBit_shiftRight, Nat.testBit_and]
  by_cases h : 4 ≤ i
  · have e : Nat.testBit 15 i = false := Nat.testBit_lt_two_pow (Nat.lt_of_lt_of_le (by decide : 15 < 2 ^ 4) (Nat.pow_le_pow_right (by decide) h))
    rw [e, show 4 + (i - 4) = i by omega]; simp [h]
  · have hi : i < 4 := by omega
    have e : Nat.testBit 15 i = true := by
      rcases i with _ | _ | _ | _ | i <;> first | decide | omega
    rw [e]; simp [h]
theorem nib_tab : ∀ l, l < 16 → hN 4 l = nibV l := by decide
theorem nib1_eq (c : Nat) : nib1 c = hN 4 c := by
  have h : c &&& 15 < 16 := Nat.lt_of_le_of_lt Nat.and_le_right (by decide)
  conv => rhs; rw [split4 c]
  rw [hN_xor, hN_shl, nib_tab _ h]; rfl
theorem hN_add : ∀ (a b c : Nat), hN a (hN b c) = hN (b + a) c
  | a, 0, c => by simp [hN]
  | a, b + 1, c => by
    show hN a (hN b (h1 c)) = _
    rw [hN_add a b, show b + 1 + a = (b + a) + 1 by omega]; rfl
theorem crcS_eq (c : Nat) (b : UInt8) : crcS c b = hN 8 (c ^^^ b.toNat) := by
  unfold crcS; rw [nib1_eq, nib1_eq, hN_add]
theorem hN_last : ∀ (k c : Nat), hN (k + 1) c = h1 (hN k c)
  | 0, _ => rfl
  | k + 1, c => by
    show hN (k + 1) (h1 c) = h1 (hN k (h1 c))
    exact hN_last k _
theorem and1 (a : Nat) : a &&& 1 = a % 2 := Nat.and_one_is_mod a
theorem bit1_eq (b c r i : Nat) (h : c = r ^^^ (b >>> i)) : bit1 b c i = h1 r ^^^ (b >>> (i + 1)) := by
  unfold bit1 h1
  rw [and1, and1]
  have hx := xor_mod2 r (b >>> i)
  rw [← h] at hx
  have e : c >>> 1 = (r >>> 1) ^^^ (b >>> (i + 1)) := by rw [h, shr_xor, Nat.shiftRight_add]
  rw [e]
  have hr := Nat.mod_two_eq_zero_or_one r
  have hb := Nat.mod_two_eq_zero_or_one (b >>> i)
  rcases hr with hr | hr <;> rcases hb with hb | hb <;> rw [hr, hb] at hx <;> rw [hx, hr, hb] <;> simp
  · rw [Nat.xor_assoc, Nat.xor_comm (b >>> (i + 1)), ← Nat.xor_assoc]
  · rw [Nat.xor_assoc, Nat.xor_comm (b >>> (i + 1)), ← Nat.xor_assoc]
def bitN (b : Nat) : Nat → Nat → Nat
  | 0, c => c
  | i + 1, c => bit1 b (bitN b i c) i
theorem bitN_eq (b c : Nat) : ∀ i, bitN b i c = hN i (c ^^^ b) ^^^ (b >>> i)
  | 0 => by simp [bitN, hN, Nat.xor_assoc]
  | i + 1 => by
    show bit1 b (bitN b i c) i = _
    rw [bit1_eq b _ _ i (bitN_eq b c i), hN_last]
theorem bit8 (c : Nat) (b : UInt8) : bitN b.toNat 8 c = crcS c b := by
  rw [bitN_eq, crcS_eq]
  have : b.toNat >>> 8 = 0 := by
    rw [Nat.shiftRight_eq_div_pow]; have := b.toNat_lt; omega
  rw [this]; simp
theorem xor_lt {a b : Nat} (ha : a < 4294967296) (hb : b < 4294967296) : a ^^^ b < 4294967296 := Nat.xor_lt_two_pow (n := 32) ha hb
theorem nibV_lt (c : Nat) : nibV c < 4294967296 := by
  unfold nibV
  by_cases h : c < 16
  · revert c; decide
  · rw [List.getD_eq_getElem?_getD, List.getElem?_eq_none (by show 16 ≤ c; omega)]; decide
theorem nib1_lt {c : Nat} (h : c < 4294967296) : nib1 c < 4294967296 := by
  unfold nib1
  refine xor_lt ?_ (nibV_lt _)
  rw [Nat.shiftRight_eq_div_pow]; omega
theorem crcS_lt {c : Nat} (b : UInt8) (h : c < 4294967296) : crcS c b < 4294967296 :=
  nib1_lt (nib1_lt (xor_lt h (by have := b.toNat_lt; omega)))
theorem crcF_lt : ∀ (bs : List UInt8) {c : Nat}, c < 4294967296 → crcF c bs < 4294967296
  | [], _, h => h
  | b :: bs, _, h => crcF_lt bs (crcS_lt b h)
theorem crcB_lt (bs : List UInt8) : crcB bs < 4294967296 := xor_lt (crcF_lt bs (by decide)) (by decide)
theorem crcF_app (c : Nat) (a b : List UInt8) : crcF c (a ++ b) = crcF (crcF c a) b := List.foldl_append ..
end Go.SX
namespace Go.SX
open Go
section
variable {P : Program} {n : Nat} {ops rest : List Oper} {Q : Post} {f : Env} {A L : List HP} {d : Tmp} {ty : TypeId} {pos : String} {af : Array Edge}
theorem Y.orr {x y : Operand} {t t' : TypeId} {k : IntKind} {a b : Int} (hx : ev f x = some (.int k a)) (hy : ev f y = some (.int k b)) : YieldS P n ops ⟨some d, .binOp .or t x y t', ty, pos, af, none⟩ f A ((.int k (k.wrap ((BitVec.ofInt k.bits a) ||| (BitVec.ofInt k.bits b)).toNat))) := Y.of (fun _ w s => by simp [execOp, s.eval hx, s.eval hy, eqGuard, binOp, Op.intArith, Op.intBits])
theorem Y.cpl {x : Operand} {t : TypeId} {a : Int} (hx : ev f x = some (.int .u32 a)) : YieldS P n ops ⟨some d, .unOp .xor t x, ty, pos, af, none⟩ f A ((.int .u32 (IntKind.u32.wrap ((BitVec.ofInt IntKind.u32.bits 4294967295) ^^^ (BitVec.ofInt IntKind.u32.bits a)).toNat))) := Y.of (fun _ w s => by simp [execOp, s.eval hx, Op.unary, Op.intBits, IntKind.signed, IntKind.max, IntKind.bits])
end
theorem wrap32 {n : Nat} (h : n < 4294967296) : IntKind.u32.wrap (n : Int) = (n : Int) := by
  simp [IntKind.wrap, IntKind.bits, IntKind.signed]; omega
theorem bv32 {n : Nat} (h : n < 4294967296) : (BitVec.ofInt IntKind.u32.bits (n : Int)).toNat = n := by
  show (BitVec.ofInt 32 (n : Int)).toNat = n
  simp; omega
theorem xor32 {a b : Nat} (ha : a < 4294967296) (hb : b < 4294967296) : IntKind.u32.wrap (((BitVec.ofInt IntKind.u32.bits (a : Int)) ^^^ (BitVec.ofInt IntKind.u32.bits (b : Int))).toNat : Int) = ((a ^^^ b : Nat) : Int) := by
  rw [BitVec.toNat_xor, bv32 ha, bv32 hb, wrap32 (xor_lt ha hb)]
theorem and32 {a b : Nat} (ha : a < 4294967296) (hb : b < 4294967296) : IntKind.u32.wrap (((BitVec.ofInt IntKind.u32.bits (a : Int)) &&& (BitVec.ofInt IntKind.u32.bits (b : Int))).toNat : Int) = ((a &&& b : Nat) : Int) := by
  rw [BitVec.toNat_and, bv32 ha, bv32 hb, wrap32 (Nat.lt_of_le_of_lt Nat.and_le_left ha)]
theorem or32 {a b : Nat} (ha : a < 4294967296) (hb : b < 4294967296) : IntKind.u32.wrap (((BitVec.ofInt IntKind.u32.bits (a : Int)) ||| (BitVec.ofInt IntKind.u32.bits (b : Int))).toNat : Int) = ((a ||| b : Nat) : Int) := by
  rw [BitVec.toNat_or, bv32 ha, bv32 hb, wrap32 (Nat.or_lt_two_pow (n := 32) ha hb)]
section
variable {P : Program} {n : Nat} {ops rest : List Oper} {Q : Post} {f : Env} {A L : List HP} {d : Tmp} {ty : TypeId} {pos : String} {af : Array Edge}
theorem Y.and32 {x y : Operand} {t t' : TypeId} {a b : Nat} (hx : ev f x = some (.int .u32 (a : Int))) (hy : ev f y = some (.int .u32 (b : Int))) (ha : a < 4294967296) (hb : b < 4294967296) : YieldS P n ops ⟨some d, .binOp .and t x y t', ty, pos, af, none⟩ f A (.int .u32 ((a &&& b : Nat) : Int)) := Go.SX.and32 ha hb ▸ Y.and hx hy
theorem Y.or32 {x y : Operand} {t t' : TypeId} {a b : Nat} (hx : ev f x = some (.int .u32 (a : Int))) (hy : ev f y = some (.int .u32 (b : Int))) (ha : a < 4294967296) (hb : b < 4294967296) : YieldS P n ops ⟨some d, .binOp .or t x y t', ty, pos, af, none⟩ f A (.int .u32 ((a ||| b : Nat) : Int)) := Go.SX.or32 ha hb ▸ Y.orr hx hy
theorem Y.xor32 {x y : Operand} {t t' : TypeId} {a b : Nat} (hx : ev f x = some (.int .u32 (a : Int))) (hy : ev f y = some (.int .u32 (b : Int))) (ha : a < 4294967296) (hb : b < 4294967296) : YieldS P n ops ⟨some d, .binOp .xor t x y t', ty, pos, af, none⟩ f A (.int .u32 ((a ^^^ b : Nat) : Int)) := Go.SX.xor32 ha hb ▸ Y.xor hx hy
theorem Y.cpl32 {x : Operand} {t : TypeId} {a : Nat} (hx : ev f x = some (.int .u32 (a : Int))) (ha : a < 4294967296) : YieldS P n ops ⟨some d, .unOp .xor t x, ty, pos, af, none⟩ f A (.int .u32 ((4294967295 ^^^ a : Nat) : Int)) := Go.SX.xor32 (a := 4294967295) (by decide) ha ▸ Y.cpl hx
theorem Y.cv32 {x : Operand} {s t : TypeId} {k : IntKind} {a : Nat} [h0 : HasUnd P s] [h2 : IntTy P t .u32] (hx : ev f x = some (.int k (a : Int))) (ha : a < 4294967296) : YieldS P n ops ⟨some d, .convert s t x, ty, pos, af, none⟩ f A (.int .u32 (a : Int)) := Go.SX.wrap32 ha ▸ Y.cvi hx
end
abbrev bC (b : UInt8) : List Value := [B b]
theorem flat_bC (xs : List UInt8) : xs.flatMap bC = xs.map B := by induction xs with
  | nil => rfl
  | cons x xs ih => simp [List.flatMap_cons, ih]
structure YB where
  a : Option Addr
  c : Nat
  bs : List UInt8
abbrev YB.val (v : YB) : Value := .slice v.a v.bs.length v.c
abbrev YB.cells (v : YB) : List Value := [v.val]
def okY (L : List HP) (v : YB) : Prop := RdS L v.a v.bs.length 1 (v.bs.map B)
def okYM (M : Nat → Option Obj) (v : YB) : Prop := SlM M v.a v.bs.length 1 (v.bs.map B)
theorem okYM.mono {M M' : Nat → Option Obj} {v : YB} (h : okYM M v) (hl : leM M M') : okYM M' v := SlM.mono h hl
theorem okYM.rd {M : Nat → Option Obj} {v : YB} (h : okYM M v) {L : List HP} [HasM M L] : okY L v := SlM.rd h
abbrev catY (vs : List YB) : List UInt8 := vs.flatMap YB.bs
theorem cat_len {vs : List YB} {v : YB} (h : v ∈ vs) : v.bs.length ≤ (catY vs).length := by
  obtain ⟨p, q, rfl⟩ := List.append_of_mem h
  simp [catY]; omega
end Go.SX
