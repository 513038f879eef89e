/- Facts on the types of the program, one by one.  By a program (wip/gen/gsa.py). slices.AppendSeq, slices.Collect, maps.Keys at keys of type uint64, walked. Vectors, ops; slices.ContainsFunc at several types.  By a program (wip/gen/vec.py). Vectors, walked: Right, Clone, CutVec, SameVec. Arrays of numbers in an owned block. Shifts, bits, a string's byte. Chains: what they are; Len, Last, Search, after, At. Chains: after, At, copyOf, Put, New, List. Chains: copyOf, Put, New, List. No condition. -/
import Derived.Test.YtiampehfpgcogaaDoorProg
import Derived.KernelRfl
import Derived.Sort.Defs
import Derived.Test.YtiampehfpgcogaaDoorPk02
set_option linter.unusedVariables false
set_option linter.unusedSimpArgs false
set_option linter.unusedSectionVars false
namespace Go.Proofs.YtiampehfpgcogaaDoor
open Go Go.SX
instance hu0 : HasUnd Tryd.prog 0 := ⟨_, Tryd.runUnderlying0⟩
instance ty1 : Ty Tryd.prog 1 false 1 [.nilFunc] 8 := ⟨⟨Tryd.t1, _, by kernel_rfl, rfl, rfl, rfl, rfl⟩, Tryd.isAgg1, Tryd.sizeOf1, ⟨_, Tryd.zeroValue1, rfl⟩, ⟨_, Tryd.typeInfo1, rfl⟩⟩
instance hu1 : HasUnd Tryd.prog 1 := ⟨_, Tryd.runUnderlying1⟩
instance ty2 : Ty Tryd.prog 2 false 1 [.int .i64 0] 8 := ⟨⟨Tryd.t2, _, by kernel_rfl, rfl, rfl, rfl, rfl⟩, Tryd.isAgg2, Tryd.sizeOf2, ⟨_, Tryd.zeroValue2, rfl⟩, ⟨_, Tryd.typeInfo2, rfl⟩⟩
instance hu2 : HasUnd Tryd.prog 2 := ⟨_, Tryd.runUnderlying2⟩
instance it2 : IntTy Tryd.prog 2 .i64 := ⟨Tryd.runUnderlying2, Tryd.underlying2⟩
instance ty3 : Ty Tryd.prog 3 false 1 [.int .i64 0] 8 := ⟨⟨Tryd.t3, _, by kernel_rfl, rfl, rfl, rfl, rfl⟩, Tryd.isAgg3, Tryd.sizeOf3, ⟨_, Tryd.zeroValue3, rfl⟩, ⟨_, Tryd.typeInfo3, rfl⟩⟩
instance hu3 : HasUnd Tryd.prog 3 := ⟨_, Tryd.runUnderlying3⟩
instance it3 : IntTy Tryd.prog 3 .i64 := ⟨Tryd.runUnderlying3, Tryd.underlying3⟩
instance ty4 : Ty Tryd.prog 4 false 1 [.bool false] 1 := ⟨⟨Tryd.t4, _, by kernel_rfl, rfl, rfl, rfl, rfl⟩, Tryd.isAgg4, Tryd.sizeOf4, ⟨_, Tryd.zeroValue4, rfl⟩, ⟨_, Tryd.typeInfo4, rfl⟩⟩
instance hu4 : HasUnd Tryd.prog 4 := ⟨_, Tryd.runUnderlying4⟩
instance bt4 : BoolTy Tryd.prog 4 := ⟨Tryd.underlying4⟩
instance ty5 : Ty Tryd.prog 5 false 1 [.int .u8 0] 1 := ⟨⟨Tryd.t5, _, by kernel_rfl, rfl, rfl, rfl, rfl⟩, Tryd.isAgg5, Tryd.sizeOf5, ⟨_, Tryd.zeroValue5, rfl⟩, ⟨_, Tryd.typeInfo5, rfl⟩⟩
instance hu5 : HasUnd Tryd.prog 5 := ⟨_, Tryd.runUnderlying5⟩
instance it5 : IntTy Tryd.prog 5 .u8 := ⟨Tryd.runUnderlying5, Tryd.underlying5⟩
instance ty6 : Ty Tryd.prog 6 false 1 [.int .u8 0] 1 := ⟨⟨Tryd.t6, _, by kernel_rfl, rfl, rfl, rfl, rfl⟩, Tryd.isAgg6, Tryd.sizeOf6, ⟨_, Tryd.zeroValue6, rfl⟩, ⟨_, Tryd.typeInfo6, rfl⟩⟩
instance hu6 : HasUnd Tryd.prog 6 := ⟨_, Tryd.runUnderlying6⟩
instance it6 : IntTy Tryd.prog 6 .u8 := ⟨Tryd.runUnderlying6, Tryd.underlying6⟩
instance ty7 : Ty Tryd.prog 7 true 4 [.int .i64 0, .int .i64 0, .bool false, .int .u8 0] 24 := ⟨⟨Tryd.t7, _, by kernel_rfl, rfl, rfl, rfl, rfl⟩, Tryd.isAgg7, Tryd.sizeOf7, ⟨_, Tryd.zeroValue7, rfl⟩, ⟨_, Tryd.typeInfo7, rfl⟩⟩
instance hu7 : HasUnd Tryd.prog 7 := ⟨_, Tryd.runUnderlying7⟩
instance ss7 : StTy Tryd.prog 7 [(0, 1, false), (1, 1, false), (2, 1, false), (3, 1, false)] := ⟨_, Tryd.runUnderlying7, rfl, fun i off sz ag h => match i, h with
  | 0, h => by simp only [List.getElem?_cons_zero, List.getElem?_cons_succ, Option.some.injEq, Prod.mk.injEq] at h; obtain ⟨rfl, rfl, rfl⟩ := h; exact ⟨_, rfl, rfl, Tryd.sizeOf2, Tryd.isAgg2⟩
  | 1, h => by simp only [List.getElem?_cons_zero, List.getElem?_cons_succ, Option.some.injEq, Prod.mk.injEq] at h; obtain ⟨rfl, rfl, rfl⟩ := h; exact ⟨_, rfl, rfl, Tryd.sizeOf3, Tryd.isAgg3⟩
  | 2, h => by simp only [List.getElem?_cons_zero, List.getElem?_cons_succ, Option.some.injEq, Prod.mk.injEq] at h; obtain ⟨rfl, rfl, rfl⟩ := h; exact ⟨_, rfl, rfl, Tryd.sizeOf4, Tryd.isAgg4⟩
  | 3, h => by simp only [List.getElem?_cons_zero, List.getElem?_cons_succ, Option.some.injEq, Prod.mk.injEq] at h; obtain ⟨rfl, rfl, rfl⟩ := h; exact ⟨_, rfl, rfl, Tryd.sizeOf6, Tryd.isAgg6⟩
  | (i + 4), h => by simp at h⟩
instance ty8 : Ty Tryd.prog 8 true 4 [.int .i64 0, .int .i64 0, .bool false, .int .u8 0] 24 := ⟨⟨Tryd.t8, _, by kernel_rfl, rfl, rfl, rfl, rfl⟩, Tryd.isAgg8, Tryd.sizeOf8, ⟨_, Tryd.zeroValue8, rfl⟩, ⟨_, Tryd.typeInfo8, rfl⟩⟩
instance hu8 : HasUnd Tryd.prog 8 := ⟨_, Tryd.runUnderlying8⟩
instance ss8 : StTy Tryd.prog 8 [(0, 1, false), (1, 1, false), (2, 1, false), (3, 1, false)] := ⟨_, Tryd.runUnderlying8, rfl, fun i off sz ag h => match i, h with
  | 0, h => by simp only [List.getElem?_cons_zero, List.getElem?_cons_succ, Option.some.injEq, Prod.mk.injEq] at h; obtain ⟨rfl, rfl, rfl⟩ := h; exact ⟨_, rfl, rfl, Tryd.sizeOf2, Tryd.isAgg2⟩
  | 1, h => by simp only [List.getElem?_cons_zero, List.getElem?_cons_succ, Option.some.injEq, Prod.mk.injEq] at h; obtain ⟨rfl, rfl, rfl⟩ := h; exact ⟨_, rfl, rfl, Tryd.sizeOf3, Tryd.isAgg3⟩
  | 2, h => by simp only [List.getElem?_cons_zero, List.getElem?_cons_succ, Option.some.injEq, Prod.mk.injEq] at h; obtain ⟨rfl, rfl, rfl⟩ := h; exact ⟨_, rfl, rfl, Tryd.sizeOf4, Tryd.isAgg4⟩
  | 3, h => by simp only [List.getElem?_cons_zero, List.getElem?_cons_succ, Option.some.injEq, Prod.mk.injEq] at h; obtain ⟨rfl, rfl, rfl⟩ := h; exact ⟨_, rfl, rfl, Tryd.sizeOf6, Tryd.isAgg6⟩
  | (i + 4), h => by simp at h⟩
instance ty9 : Ty Tryd.prog 9 false 1 [.string ⟨#[]⟩] 16 := ⟨⟨Tryd.t9, _, by kernel_rfl, rfl, rfl, rfl, rfl⟩, Tryd.isAgg9, Tryd.sizeOf9, ⟨_, Tryd.zeroValue9, rfl⟩, ⟨_, Tryd.typeInfo9, rfl⟩⟩
instance hu9 : HasUnd Tryd.prog 9 := ⟨_, Tryd.runUnderlying9⟩
instance st9 : StrTy Tryd.prog 9 := ⟨Tryd.runUnderlying9, Tryd.underlying9⟩
instance ty10 : Ty Tryd.prog 10 false 1 [.string ⟨#[]⟩] 16 := ⟨⟨Tryd.t10, _, by kernel_rfl, rfl, rfl, rfl, rfl⟩, Tryd.isAgg10, Tryd.sizeOf10, ⟨_, Tryd.zeroValue10, rfl⟩, ⟨_, Tryd.typeInfo10, rfl⟩⟩
instance hu10 : HasUnd Tryd.prog 10 := ⟨_, Tryd.runUnderlying10⟩
instance st10 : StrTy Tryd.prog 10 := ⟨Tryd.runUnderlying10, Tryd.underlying10⟩
instance ty11 : Ty Tryd.prog 11 false 1 [.string ⟨#[]⟩] 16 := ⟨⟨Tryd.t11, _, by kernel_rfl, rfl, rfl, rfl, rfl⟩, Tryd.isAgg11, Tryd.sizeOf11, ⟨_, Tryd.zeroValue11, rfl⟩, ⟨_, Tryd.typeInfo11, rfl⟩⟩
instance hu11 : HasUnd Tryd.prog 11 := ⟨_, Tryd.runUnderlying11⟩
instance st11 : StrTy Tryd.prog 11 := ⟨Tryd.runUnderlying11, Tryd.underlying11⟩
instance ty12 : Ty Tryd.prog 12 false 1 [.int .u64 0] 8 := ⟨⟨Tryd.t12, _, by kernel_rfl, rfl, rfl, rfl, rfl⟩, Tryd.isAgg12, Tryd.sizeOf12, ⟨_, Tryd.zeroValue12, rfl⟩, ⟨_, Tryd.typeInfo12, rfl⟩⟩
instance hu12 : HasUnd Tryd.prog 12 := ⟨_, Tryd.runUnderlying12⟩
instance it12 : IntTy Tryd.prog 12 .u64 := ⟨Tryd.runUnderlying12, Tryd.underlying12⟩
instance ty13 : Ty Tryd.prog 13 true 2 [.string ⟨#[]⟩, .int .u64 0] 24 := ⟨⟨Tryd.t13, _, by kernel_rfl, rfl, rfl, rfl, rfl⟩, Tryd.isAgg13, Tryd.sizeOf13, ⟨_, Tryd.zeroValue13, rfl⟩, ⟨_, Tryd.typeInfo13, rfl⟩⟩
instance hu13 : HasUnd Tryd.prog 13 := ⟨_, Tryd.runUnderlying13⟩
instance ss13 : StTy Tryd.prog 13 [(0, 1, false), (1, 1, false)] := ⟨_, Tryd.runUnderlying13, rfl, fun i off sz ag h => match i, h with
  | 0, h => by simp only [List.getElem?_cons_zero, List.getElem?_cons_succ, Option.some.injEq, Prod.mk.injEq] at h; obtain ⟨rfl, rfl, rfl⟩ := h; exact ⟨_, rfl, rfl, Tryd.sizeOf9, Tryd.isAgg9⟩
  | 1, h => by simp only [List.getElem?_cons_zero, List.getElem?_cons_succ, Option.some.injEq, Prod.mk.injEq] at h; obtain ⟨rfl, rfl, rfl⟩ := h; exact ⟨_, rfl, rfl, Tryd.sizeOf12, Tryd.isAgg12⟩
  | (i + 2), h => by simp at h⟩
instance ty14 : Ty Tryd.prog 14 true 2 [.string ⟨#[]⟩, .int .u64 0] 24 := ⟨⟨Tryd.t14, _, by kernel_rfl, rfl, rfl, rfl, rfl⟩, Tryd.isAgg14, Tryd.sizeOf14, ⟨_, Tryd.zeroValue14, rfl⟩, ⟨_, Tryd.typeInfo14, rfl⟩⟩
instance hu14 : HasUnd Tryd.prog 14 := ⟨_, Tryd.runUnderlying14⟩
instance ss14 : StTy Tryd.prog 14 [(0, 1, false), (1, 1, false)] := ⟨_, Tryd.runUnderlying14, rfl, fun i off sz ag h => match i, h with
  | 0, h => by simp only [List.getElem?_cons_zero, List.getElem?_cons_succ, Option.some.injEq, Prod.mk.injEq] at h; obtain ⟨rfl, rfl, rfl⟩ := h; exact ⟨_, rfl, rfl, Tryd.sizeOf9, Tryd.isAgg9⟩
  | 1, h => by simp only [List.getElem?_cons_zero, List.getElem?_cons_succ, Option.some.injEq, Prod.mk.injEq] at h; obtain ⟨rfl, rfl, rfl⟩ := h; exact ⟨_, rfl, rfl, Tryd.sizeOf12, Tryd.isAgg12⟩
  | (i + 2), h => by simp at h⟩
instance ty15 : Ty Tryd.prog 15 false 1 [.pointer none] 8 := ⟨⟨Tryd.t15, _, by kernel_rfl, rfl, rfl, rfl, rfl⟩, Tryd.isAgg15, Tryd.sizeOf15, ⟨_, Tryd.zeroValue15, rfl⟩, ⟨_, Tryd.typeInfo15, rfl⟩⟩
instance hu15 : HasUnd Tryd.prog 15 := ⟨_, Tryd.runUnderlying15⟩
instance pt15 : PtrTy Tryd.prog 15 161 := ⟨Tryd.runUnderlying15, Tryd.underlying15⟩
instance ty16 : Ty Tryd.prog 16 false 1 [.pointer none] 8 := ⟨⟨Tryd.t16, _, by kernel_rfl, rfl, rfl, rfl, rfl⟩, Tryd.isAgg16, Tryd.sizeOf16, ⟨_, Tryd.zeroValue16, rfl⟩, ⟨_, Tryd.typeInfo16, rfl⟩⟩
instance hu16 : HasUnd Tryd.prog 16 := ⟨_, Tryd.runUnderlying16⟩
instance pt16 : PtrTy Tryd.prog 16 164 := ⟨Tryd.runUnderlying16, Tryd.underlying16⟩
instance ty17 : Ty Tryd.prog 17 false 1 [.pointer none] 8 := ⟨⟨Tryd.t17, _, by kernel_rfl, rfl, rfl, rfl, rfl⟩, Tryd.isAgg17, Tryd.sizeOf17, ⟨_, Tryd.zeroValue17, rfl⟩, ⟨_, Tryd.typeInfo17, rfl⟩⟩
instance hu17 : HasUnd Tryd.prog 17 := ⟨_, Tryd.runUnderlying17⟩
instance pt17 : PtrTy Tryd.prog 17 173 := ⟨Tryd.runUnderlying17, Tryd.underlying17⟩
instance ty18 : Ty Tryd.prog 18 true 1 [.pointer none] 8 := ⟨⟨Tryd.t18, _, by kernel_rfl, rfl, rfl, rfl, rfl⟩, Tryd.isAgg18, Tryd.sizeOf18, ⟨_, Tryd.zeroValue18, rfl⟩, ⟨_, Tryd.typeInfo18, rfl⟩⟩
instance hu18 : HasUnd Tryd.prog 18 := ⟨_, Tryd.runUnderlying18⟩
instance ss18 : StTy Tryd.prog 18 [(0, 1, false)] := ⟨_, Tryd.runUnderlying18, rfl, fun i off sz ag h => match i, h with
  | 0, h => by simp only [List.getElem?_cons_zero, List.getElem?_cons_succ, Option.some.injEq, Prod.mk.injEq] at h; obtain ⟨rfl, rfl, rfl⟩ := h; exact ⟨_, rfl, rfl, Tryd.sizeOf17, Tryd.isAgg17⟩
  | (i + 1), h => by simp at h⟩
instance ty19 : Ty Tryd.prog 19 true 1 [.pointer none] 8 := ⟨⟨Tryd.t19, _, by kernel_rfl, rfl, rfl, rfl, rfl⟩, Tryd.isAgg19, Tryd.sizeOf19, ⟨_, Tryd.zeroValue19, rfl⟩, ⟨_, Tryd.typeInfo19, rfl⟩⟩
instance hu19 : HasUnd Tryd.prog 19 := ⟨_, Tryd.runUnderlying19⟩
instance ss19 : StTy Tryd.prog 19 [(0, 1, false)] := ⟨_, Tryd.runUnderlying19, rfl, fun i off sz ag h => match i, h with
  | 0, h => by simp only [List.getElem?_cons_zero, List.getElem?_cons_succ, Option.some.injEq, Prod.mk.injEq] at h; obtain ⟨rfl, rfl, rfl⟩ := h; exact ⟨_, rfl, rfl, Tryd.sizeOf17, Tryd.isAgg17⟩
  | (i + 1), h => by simp at h⟩
instance ty20 : Ty Tryd.prog 20 false 1 [.nilIface] 16 := ⟨⟨Tryd.t20, _, by kernel_rfl, rfl, rfl, rfl, rfl⟩, Tryd.isAgg20, Tryd.sizeOf20, ⟨_, Tryd.zeroValue20, rfl⟩, ⟨_, Tryd.typeInfo20, rfl⟩⟩
instance hu20 : HasUnd Tryd.prog 20 := ⟨_, Tryd.runUnderlying20⟩
instance ty21 : Ty Tryd.prog 21 false 1 [.int .i32 0] 4 := ⟨⟨Tryd.t21, _, by kernel_rfl, rfl, rfl, rfl, rfl⟩, Tryd.isAgg21, Tryd.sizeOf21, ⟨_, Tryd.zeroValue21, rfl⟩, ⟨_, Tryd.typeInfo21, rfl⟩⟩
instance hu21 : HasUnd Tryd.prog 21 := ⟨_, Tryd.runUnderlying21⟩
instance it21 : IntTy Tryd.prog 21 .i32 := ⟨Tryd.runUnderlying21, Tryd.underlying21⟩
instance ty22 : Ty Tryd.prog 22 false 1 [.slice none 0 0] 24 := ⟨⟨Tryd.t22, _, by kernel_rfl, rfl, rfl, rfl, rfl⟩, Tryd.isAgg22, Tryd.sizeOf22, ⟨_, Tryd.zeroValue22, rfl⟩, ⟨_, Tryd.typeInfo22, rfl⟩⟩
instance hu22 : HasUnd Tryd.prog 22 := ⟨_, Tryd.runUnderlying22⟩
instance sl22 : SlTy Tryd.prog 22 38 := ⟨Tryd.runUnderlying22, Tryd.underlying22⟩
instance ty23 : Ty Tryd.prog 23 false 1 [.nilFunc] 8 := ⟨⟨Tryd.t23, _, by kernel_rfl, rfl, rfl, rfl, rfl⟩, Tryd.isAgg23, Tryd.sizeOf23, ⟨_, Tryd.zeroValue23, rfl⟩, ⟨_, Tryd.typeInfo23, rfl⟩⟩
instance hu23 : HasUnd Tryd.prog 23 := ⟨_, Tryd.runUnderlying23⟩
instance ty24 : Ty Tryd.prog 24 false 1 [.pointer none] 8 := ⟨⟨Tryd.t24, _, by kernel_rfl, rfl, rfl, rfl, rfl⟩, Tryd.isAgg24, Tryd.sizeOf24, ⟨_, Tryd.zeroValue24, rfl⟩, ⟨_, Tryd.typeInfo24, rfl⟩⟩
instance hu24 : HasUnd Tryd.prog 24 := ⟨_, Tryd.runUnderlying24⟩
instance pt24 : PtrTy Tryd.prog 24 65 := ⟨Tryd.runUnderlying24, Tryd.underlying24⟩
instance ty25 : Ty Tryd.prog 25 false 1 [.int .i64 0] 8 := ⟨⟨Tryd.t25, _, by kernel_rfl, rfl, rfl, rfl, rfl⟩, Tryd.isAgg25, Tryd.sizeOf25, ⟨_, Tryd.zeroValue25, rfl⟩, ⟨_, Tryd.typeInfo25, rfl⟩⟩
instance hu25 : HasUnd Tryd.prog 25 := ⟨_, Tryd.runUnderlying25⟩
instance it25 : IntTy Tryd.prog 25 .i64 := ⟨Tryd.runUnderlying25, Tryd.underlying25⟩
instance hu26 : HasUnd Tryd.prog 26 := ⟨_, Tryd.runUnderlying26⟩
instance ty27 : Ty Tryd.prog 27 false 1 [.nilFunc] 8 := ⟨⟨Tryd.t27, _, by kernel_rfl, rfl, rfl, rfl, rfl⟩, Tryd.isAgg27, Tryd.sizeOf27, ⟨_, Tryd.zeroValue27, rfl⟩, ⟨_, Tryd.typeInfo27, rfl⟩⟩
instance hu27 : HasUnd Tryd.prog 27 := ⟨_, Tryd.runUnderlying27⟩
instance ty28 : Ty Tryd.prog 28 false 1 [.map none] 8 := ⟨⟨Tryd.t28, _, by kernel_rfl, rfl, rfl, rfl, rfl⟩, Tryd.isAgg28, Tryd.sizeOf28, ⟨_, Tryd.zeroValue28, rfl⟩, ⟨_, Tryd.typeInfo28, rfl⟩⟩
instance hu28 : HasUnd Tryd.prog 28 := ⟨_, Tryd.runUnderlying28⟩
instance mt28 : MapTy Tryd.prog 28 30 46 := ⟨Tryd.runUnderlying28, Tryd.underlying28⟩
instance ty29 : Ty Tryd.prog 29 false 1 [.map none] 8 := ⟨⟨Tryd.t29, _, by kernel_rfl, rfl, rfl, rfl, rfl⟩, Tryd.isAgg29, Tryd.sizeOf29, ⟨_, Tryd.zeroValue29, rfl⟩, ⟨_, Tryd.typeInfo29, rfl⟩⟩
instance hu29 : HasUnd Tryd.prog 29 := ⟨_, Tryd.runUnderlying29⟩
instance mt29 : MapTy Tryd.prog 29 30 30 := ⟨Tryd.runUnderlying29, Tryd.underlying29⟩
instance ty30 : Ty Tryd.prog 30 false 1 [.int .u64 0] 8 := ⟨⟨Tryd.t30, _, by kernel_rfl, rfl, rfl, rfl, rfl⟩, Tryd.isAgg30, Tryd.sizeOf30, ⟨_, Tryd.zeroValue30, rfl⟩, ⟨_, Tryd.typeInfo30, rfl⟩⟩
instance hu30 : HasUnd Tryd.prog 30 := ⟨_, Tryd.runUnderlying30⟩
instance it30 : IntTy Tryd.prog 30 .u64 := ⟨Tryd.runUnderlying30, Tryd.underlying30⟩
instance ty31 : Ty Tryd.prog 31 false 1 [.slice none 0 0] 24 := ⟨⟨Tryd.t31, _, by kernel_rfl, rfl, rfl, rfl, rfl⟩, Tryd.isAgg31, Tryd.sizeOf31, ⟨_, Tryd.zeroValue31, rfl⟩, ⟨_, Tryd.typeInfo31, rfl⟩⟩
instance hu31 : HasUnd Tryd.prog 31 := ⟨_, Tryd.runUnderlying31⟩
instance sl31 : SlTy Tryd.prog 31 3 := ⟨Tryd.runUnderlying31, Tryd.underlying31⟩
instance ty32 : Ty Tryd.prog 32 false 1 [.slice none 0 0] 24 := ⟨⟨Tryd.t32, _, by kernel_rfl, rfl, rfl, rfl, rfl⟩, Tryd.isAgg32, Tryd.sizeOf32, ⟨_, Tryd.zeroValue32, rfl⟩, ⟨_, Tryd.typeInfo32, rfl⟩⟩
instance hu32 : HasUnd Tryd.prog 32 := ⟨_, Tryd.runUnderlying32⟩
instance sl32 : SlTy Tryd.prog 32 57 := ⟨Tryd.runUnderlying32, Tryd.underlying32⟩
instance ty33 : Ty Tryd.prog 33 false 1 [.slice none 0 0] 24 := ⟨⟨Tryd.t33, _, by kernel_rfl, rfl, rfl, rfl, rfl⟩, Tryd.isAgg33, Tryd.sizeOf33, ⟨_, Tryd.zeroValue33, rfl⟩, ⟨_, Tryd.typeInfo33, rfl⟩⟩
instance hu33 : HasUnd Tryd.prog 33 := ⟨_, Tryd.runUnderlying33⟩
instance sl33 : SlTy Tryd.prog 33 21 := ⟨Tryd.runUnderlying33, Tryd.underlying33⟩
instance ty34 : Ty Tryd.prog 34 false 1 [.slice none 0 0] 24 := ⟨⟨Tryd.t34, _, by kernel_rfl, rfl, rfl, rfl, rfl⟩, Tryd.isAgg34, Tryd.sizeOf34, ⟨_, Tryd.zeroValue34, rfl⟩, ⟨_, Tryd.typeInfo34, rfl⟩⟩
instance hu34 : HasUnd Tryd.prog 34 := ⟨_, Tryd.runUnderlying34⟩
instance sl34 : SlTy Tryd.prog 34 85 := ⟨Tryd.runUnderlying34, Tryd.underlying34⟩
instance ty35 : Ty Tryd.prog 35 true 16 [.int .u8 0, .int .u64 0, .int .u64 0, .int .u64 0, .int .u64 0, .int .u64 0, .int .u64 0, .int .u64 0, .int .i64 0, .int .i64 0, .int .i64 0, .int .i64 0, .slice none 0 0, .slice none 0 0, .slice none 0 0, .slice none 0 0] 192 := ⟨⟨Tryd.t35, _, by kernel_rfl, rfl, rfl, rfl, rfl⟩, Tryd.isAgg35, Tryd.sizeOf35, ⟨_, Tryd.zeroValue35, rfl⟩, ⟨_, Tryd.typeInfo35, rfl⟩⟩
instance hu35 : HasUnd Tryd.prog 35 := ⟨_, Tryd.runUnderlying35⟩
instance ss35 : StTy Tryd.prog 35 [(0, 1, false), (1, 1, false), (2, 1, false), (3, 1, false), (4, 1, false), (5, 1, false), (6, 1, false), (7, 1, false), (8, 1, false), (9, 1, false), (10, 1, false), (11, 1, false), (12, 1, false), (13, 1, false), (14, 1, false), (15, 1, false)] := ⟨_, Tryd.runUnderlying35, rfl, fun i off sz ag h => match i, h with
  | 0, h => by simp only [List.getElem?_cons_zero, List.getElem?_cons_succ, Option.some.injEq, Prod.mk.injEq] at h; obtain ⟨rfl, rfl, rfl⟩ := h; exact ⟨_, rfl, rfl, Tryd.sizeOf5, Tryd.isAgg5⟩
  | 1, h => by simp only [List.getElem?_cons_zero, List.getElem?_cons_succ, Option.some.injEq, Prod.mk.injEq] at h; obtain ⟨rfl, rfl, rfl⟩ := h; exact ⟨_, rfl, rfl, Tryd.sizeOf30, Tryd.isAgg30⟩
  | 2, h => by simp only [List.getElem?_cons_zero, List.getElem?_cons_succ, Option.some.injEq, Prod.mk.injEq] at h; obtain ⟨rfl, rfl, rfl⟩ := h; exact ⟨_, rfl, rfl, Tryd.sizeOf30, Tryd.isAgg30⟩
  | 3, h => by simp only [List.getElem?_cons_zero, List.getElem?_cons_succ, Option.some.injEq, Prod.mk.injEq] at h; obtain ⟨rfl, rfl, rfl⟩ := h; exact ⟨_, rfl, rfl, Tryd.sizeOf30, Tryd.isAgg30⟩
  | 4, h => by simp only [List.getElem?_cons_zero, List.getElem?_cons_succ, Option.some.injEq, Prod.mk.injEq] at h; obtain ⟨rfl, rfl, rfl⟩ := h; exact ⟨_, rfl, rfl, Tryd.sizeOf30, Tryd.isAgg30⟩
  | 5, h => by simp only [List.getElem?_cons_zero, List.getElem?_cons_succ, Option.some.injEq, Prod.mk.injEq] at h; obtain ⟨rfl, rfl, rfl⟩ := h; exact ⟨_, rfl, rfl, Tryd.sizeOf30, Tryd.isAgg30⟩
  | 6, h => by simp only [List.getElem?_cons_zero, List.getElem?_cons_succ, Option.some.injEq, Prod.mk.injEq] at h; obtain ⟨rfl, rfl, rfl⟩ := h; exact ⟨_, rfl, rfl, Tryd.sizeOf30, Tryd.isAgg30⟩
  | 7, h => by simp only [List.getElem?_cons_zero, List.getElem?_cons_succ, Option.some.injEq, Prod.mk.injEq] at h; obtain ⟨rfl, rfl, rfl⟩ := h; exact ⟨_, rfl, rfl, Tryd.sizeOf30, Tryd.isAgg30⟩
  | 8, h => by simp only [List.getElem?_cons_zero, List.getElem?_cons_succ, Option.some.injEq, Prod.mk.injEq] at h; obtain ⟨rfl, rfl, rfl⟩ := h; exact ⟨_, rfl, rfl, Tryd.sizeOf3, Tryd.isAgg3⟩
  | 9, h => by simp only [List.getElem?_cons_zero, List.getElem?_cons_succ, Option.some.injEq, Prod.mk.injEq] at h; obtain ⟨rfl, rfl, rfl⟩ := h; exact ⟨_, rfl, rfl, Tryd.sizeOf3, Tryd.isAgg3⟩
  | 10, h => by simp only [List.getElem?_cons_zero, List.getElem?_cons_succ, Option.some.injEq, Prod.mk.injEq] at h; obtain ⟨rfl, rfl, rfl⟩ := h; exact ⟨_, rfl, rfl, Tryd.sizeOf25, Tryd.isAgg25⟩
  | 11, h => by simp only [List.getElem?_cons_zero, List.getElem?_cons_succ, Option.some.injEq, Prod.mk.injEq] at h; obtain ⟨rfl, rfl, rfl⟩ := h; exact ⟨_, rfl, rfl, Tryd.sizeOf3, Tryd.isAgg3⟩
  | 12, h => by simp only [List.getElem?_cons_zero, List.getElem?_cons_succ, Option.some.injEq, Prod.mk.injEq] at h; obtain ⟨rfl, rfl, rfl⟩ := h; exact ⟨_, rfl, rfl, Tryd.sizeOf31, Tryd.isAgg31⟩
  | 13, h => by simp only [List.getElem?_cons_zero, List.getElem?_cons_succ, Option.some.injEq, Prod.mk.injEq] at h; obtain ⟨rfl, rfl, rfl⟩ := h; exact ⟨_, rfl, rfl, Tryd.sizeOf32, Tryd.isAgg32⟩
  | 14, h => by simp only [List.getElem?_cons_zero, List.getElem?_cons_succ, Option.some.injEq, Prod.mk.injEq] at h; obtain ⟨rfl, rfl, rfl⟩ := h; exact ⟨_, rfl, rfl, Tryd.sizeOf33, Tryd.isAgg33⟩
  | 15, h => by simp only [List.getElem?_cons_zero, List.getElem?_cons_succ, Option.some.injEq, Prod.mk.injEq] at h; obtain ⟨rfl, rfl, rfl⟩ := h; exact ⟨_, rfl, rfl, Tryd.sizeOf34, Tryd.isAgg34⟩
  | (i + 16), h => by simp at h⟩
instance ty36 : Ty Tryd.prog 36 true 16 [.int .u8 0, .int .u64 0, .int .u64 0, .int .u64 0, .int .u64 0, .int .u64 0, .int .u64 0, .int .u64 0, .int .i64 0, .int .i64 0, .int .i64 0, .int .i64 0, .slice none 0 0, .slice none 0 0, .slice none 0 0, .slice none 0 0] 192 := ⟨⟨Tryd.t36, _, by kernel_rfl, rfl, rfl, rfl, rfl⟩, Tryd.isAgg36, Tryd.sizeOf36, ⟨_, Tryd.zeroValue36, rfl⟩, ⟨_, Tryd.typeInfo36, rfl⟩⟩
instance hu36 : HasUnd Tryd.prog 36 := ⟨_, Tryd.runUnderlying36⟩
instance ss36 : StTy Tryd.prog 36 [(0, 1, false), (1, 1, false), (2, 1, false), (3, 1, false), (4, 1, false), (5, 1, false), (6, 1, false), (7, 1, false), (8, 1, false), (9, 1, false), (10, 1, false), (11, 1, false), (12, 1, false), (13, 1, false), (14, 1, false), (15, 1, false)] := ⟨_, Tryd.runUnderlying36, rfl, fun i off sz ag h => match i, h with
  | 0, h => by simp only [List.getElem?_cons_zero, List.getElem?_cons_succ, Option.some.injEq, Prod.mk.injEq] at h; obtain ⟨rfl, rfl, rfl⟩ := h; exact ⟨_, rfl, rfl, Tryd.sizeOf5, Tryd.isAgg5⟩
  | 1, h => by simp only [List.getElem?_cons_zero, List.getElem?_cons_succ, Option.some.injEq, Prod.mk.injEq] at h; obtain ⟨rfl, rfl, rfl⟩ := h; exact ⟨_, rfl, rfl, Tryd.sizeOf30, Tryd.isAgg30⟩
  | 2, h => by simp only [List.getElem?_cons_zero, List.getElem?_cons_succ, Option.some.injEq, Prod.mk.injEq] at h; obtain ⟨rfl, rfl, rfl⟩ := h; exact ⟨_, rfl, rfl, Tryd.sizeOf30, Tryd.isAgg30⟩
  | 3, h => by simp only [List.getElem?_cons_zero, List.getElem?_cons_succ, Option.some.injEq, Prod.mk.injEq] at h; obtain ⟨rfl, rfl, rfl⟩ := h; exact ⟨_, rfl, rfl, Tryd.sizeOf30, Tryd.isAgg30⟩
  | 4, h => by simp only [List.getElem?_cons_zero, List.getElem?_cons_succ, Option.some.injEq, Prod.mk.injEq] at h; obtain ⟨rfl, rfl, rfl⟩ := h; exact ⟨_, rfl, rfl, Tryd.sizeOf30, Tryd.isAgg30⟩
  | 5, h => by simp only [List.getElem?_cons_zero, List.getElem?_cons_succ, Option.some.injEq, Prod.mk.injEq] at h; obtain ⟨rfl, rfl, rfl⟩ := h; exact ⟨_, rfl, rfl, Tryd.sizeOf30, Tryd.isAgg30⟩
  | 6, h => by simp only [List.getElem?_cons_zero, List.getElem?_cons_succ, Option.some.injEq, Prod.mk.injEq] at h; obtain ⟨rfl, rfl, rfl⟩ := h; exact ⟨_, rfl, rfl, Tryd.sizeOf30, Tryd.isAgg30⟩
  | 7, h => by simp only [List.getElem?_cons_zero, List.getElem?_cons_succ, Option.some.injEq, Prod.mk.injEq] at h; obtain ⟨rfl, rfl, rfl⟩ := h; exact ⟨_, rfl, rfl, Tryd.sizeOf30, Tryd.isAgg30⟩
  | 8, h => by simp only [List.getElem?_cons_zero, List.getElem?_cons_succ, Option.some.injEq, Prod.mk.injEq] at h; obtain ⟨rfl, rfl, rfl⟩ := h; exact ⟨_, rfl, rfl, Tryd.sizeOf3, Tryd.isAgg3⟩
  | 9, h => by simp only [List.getElem?_cons_zero, List.getElem?_cons_succ, Option.some.injEq, Prod.mk.injEq] at h; obtain ⟨rfl, rfl, rfl⟩ := h; exact ⟨_, rfl, rfl, Tryd.sizeOf3, Tryd.isAgg3⟩
  | 10, h => by simp only [List.getElem?_cons_zero, List.getElem?_cons_succ, Option.some.injEq, Prod.mk.injEq] at h; obtain ⟨rfl, rfl, rfl⟩ := h; exact ⟨_, rfl, rfl, Tryd.sizeOf25, Tryd.isAgg25⟩
  | 11, h => by simp only [List.getElem?_cons_zero, List.getElem?_cons_succ, Option.some.injEq, Prod.mk.injEq] at h; obtain ⟨rfl, rfl, rfl⟩ := h; exact ⟨_, rfl, rfl, Tryd.sizeOf3, Tryd.isAgg3⟩
  | 12, h => by simp only [List.getElem?_cons_zero, List.getElem?_cons_succ, Option.some.injEq, Prod.mk.injEq] at h; obtain ⟨rfl, rfl, rfl⟩ := h; exact ⟨_, rfl, rfl, Tryd.sizeOf31, Tryd.isAgg31⟩
  | 13, h => by simp only [List.getElem?_cons_zero, List.getElem?_cons_succ, Option.some.injEq, Prod.mk.injEq] at h; obtain ⟨rfl, rfl, rfl⟩ := h; exact ⟨_, rfl, rfl, Tryd.sizeOf32, Tryd.isAgg32⟩
  | 14, h => by simp only [List.getElem?_cons_zero, List.getElem?_cons_succ, Option.some.injEq, Prod.mk.injEq] at h; obtain ⟨rfl, rfl, rfl⟩ := h; exact ⟨_, rfl, rfl, Tryd.sizeOf33, Tryd.isAgg33⟩
  | 15, h => by simp only [List.getElem?_cons_zero, List.getElem?_cons_succ, Option.some.injEq, Prod.mk.injEq] at h; obtain ⟨rfl, rfl, rfl⟩ := h; exact ⟨_, rfl, rfl, Tryd.sizeOf34, Tryd.isAgg34⟩
  | (i + 16), h => by simp at h⟩
instance ty37 : Ty Tryd.prog 37 true 19 [.int .u8 0, .int .i64 0, .int .u8 0, .int .u64 0, .int .u64 0, .int .u64 0, .int .u64 0, .int .u64 0, .int .u64 0, .int .u64 0, .int .i64 0, .int .i64 0, .int .i64 0, .int .i64 0, .slice none 0 0, .slice none 0 0, .slice none 0 0, .slice none 0 0, .bool false] 216 := ⟨⟨Tryd.t37, _, by kernel_rfl, rfl, rfl, rfl, rfl⟩, Tryd.isAgg37, Tryd.sizeOf37, ⟨_, Tryd.zeroValue37, rfl⟩, ⟨_, Tryd.typeInfo37, rfl⟩⟩
instance hu37 : HasUnd Tryd.prog 37 := ⟨_, Tryd.runUnderlying37⟩
instance ss37 : StTy Tryd.prog 37 [(0, 1, false), (1, 1, false), (2, 16, true), (18, 1, false)] := ⟨_, Tryd.runUnderlying37, rfl, fun i off sz ag h => match i, h with
  | 0, h => by simp only [List.getElem?_cons_zero, List.getElem?_cons_succ, Option.some.injEq, Prod.mk.injEq] at h; obtain ⟨rfl, rfl, rfl⟩ := h; exact ⟨_, rfl, rfl, Tryd.sizeOf5, Tryd.isAgg5⟩
  | 1, h => by simp only [List.getElem?_cons_zero, List.getElem?_cons_succ, Option.some.injEq, Prod.mk.injEq] at h; obtain ⟨rfl, rfl, rfl⟩ := h; exact ⟨_, rfl, rfl, Tryd.sizeOf3, Tryd.isAgg3⟩
  | 2, h => by simp only [List.getElem?_cons_zero, List.getElem?_cons_succ, Option.some.injEq, Prod.mk.injEq] at h; obtain ⟨rfl, rfl, rfl⟩ := h; exact ⟨_, rfl, rfl, Tryd.sizeOf36, Tryd.isAgg36⟩
  | 3, h => by simp only [List.getElem?_cons_zero, List.getElem?_cons_succ, Option.some.injEq, Prod.mk.injEq] at h; obtain ⟨rfl, rfl, rfl⟩ := h; exact ⟨_, rfl, rfl, Tryd.sizeOf4, Tryd.isAgg4⟩
  | (i + 4), h => by simp at h⟩
instance ty38 : Ty Tryd.prog 38 true 19 [.int .u8 0, .int .i64 0, .int .u8 0, .int .u64 0, .int .u64 0, .int .u64 0, .int .u64 0, .int .u64 0, .int .u64 0, .int .u64 0, .int .i64 0, .int .i64 0, .int .i64 0, .int .i64 0, .slice none 0 0, .slice none 0 0, .slice none 0 0, .slice none 0 0, .bool false] 216 := ⟨⟨Tryd.t38, _, by kernel_rfl, rfl, rfl, rfl, rfl⟩, Tryd.isAgg38, Tryd.sizeOf38, ⟨_, Tryd.zeroValue38, rfl⟩, ⟨_, Tryd.typeInfo38, rfl⟩⟩
instance hu38 : HasUnd Tryd.prog 38 := ⟨_, Tryd.runUnderlying38⟩
instance ss38 : StTy Tryd.prog 38 [(0, 1, false), (1, 1, false), (2, 16, true), (18, 1, false)] := ⟨_, Tryd.runUnderlying38, rfl, fun i off sz ag h => match i, h with
  | 0, h => by simp only [List.getElem?_cons_zero, List.getElem?_cons_succ, Option.some.injEq, Prod.mk.injEq] at h; obtain ⟨rfl, rfl, rfl⟩ := h; exact ⟨_, rfl, rfl, Tryd.sizeOf5, Tryd.isAgg5⟩
  | 1, h => by simp only [List.getElem?_cons_zero, List.getElem?_cons_succ, Option.some.injEq, Prod.mk.injEq] at h; obtain ⟨rfl, rfl, rfl⟩ := h; exact ⟨_, rfl, rfl, Tryd.sizeOf3, Tryd.isAgg3⟩
  | 2, h => by simp only [List.getElem?_cons_zero, List.getElem?_cons_succ, Option.some.injEq, Prod.mk.injEq] at h; obtain ⟨rfl, rfl, rfl⟩ := h; exact ⟨_, rfl, rfl, Tryd.sizeOf36, Tryd.isAgg36⟩
  | 3, h => by simp only [List.getElem?_cons_zero, List.getElem?_cons_succ, Option.some.injEq, Prod.mk.injEq] at h; obtain ⟨rfl, rfl, rfl⟩ := h; exact ⟨_, rfl, rfl, Tryd.sizeOf4, Tryd.isAgg4⟩
  | (i + 4), h => by simp at h⟩
instance ty39 : Ty Tryd.prog 39 true 16 [.int .u8 0, .int .u64 0, .int .u64 0, .int .u64 0, .int .u64 0, .int .u64 0, .int .u64 0, .int .u64 0, .int .i64 0, .int .i64 0, .int .i64 0, .int .i64 0, .slice none 0 0, .slice none 0 0, .slice none 0 0, .slice none 0 0] 192 := ⟨⟨Tryd.t39, _, by kernel_rfl, rfl, rfl, rfl, rfl⟩, Tryd.isAgg39, Tryd.sizeOf39, ⟨_, Tryd.zeroValue39, rfl⟩, ⟨_, Tryd.typeInfo39, rfl⟩⟩
instance hu39 : HasUnd Tryd.prog 39 := ⟨_, Tryd.runUnderlying39⟩
instance ss39 : StTy Tryd.prog 39 [(0, 1, false), (1, 1, false), (2, 1, false), (3, 1, false), (4, 1, false), (5, 1, false), (6, 1, false), (7, 1, false), (8, 1, false), (9, 1, false), (10, 1, false), (11, 1, false), (12, 1, false), (13, 1, false), (14, 1, false), (15, 1, false)] := ⟨_, Tryd.runUnderlying39, rfl, fun i off sz ag h => match i, h with
  | 0, h => by simp only [List.getElem?_cons_zero, List.getElem?_cons_succ, Option.some.injEq, Prod.mk.injEq] at h; obtain ⟨rfl, rfl, rfl⟩ := h; exact ⟨_, rfl, rfl, Tryd.sizeOf5, Tryd.isAgg5⟩
  | 1, h => by simp only [List.getElem?_cons_zero, List.getElem?_cons_succ, Option.some.injEq, Prod.mk.injEq] at h; obtain ⟨rfl, rfl, rfl⟩ := h; exact ⟨_, rfl, rfl, Tryd.sizeOf30, Tryd.isAgg30⟩
  | 2, h => by simp only [List.getElem?_cons_zero, List.getElem?_cons_succ, Option.some.injEq, Prod.mk.injEq] at h; obtain ⟨rfl, rfl, rfl⟩ := h; exact ⟨_, rfl, rfl, Tryd.sizeOf30, Tryd.isAgg30⟩
  | 3, h => by simp only [List.getElem?_cons_zero, List.getElem?_cons_succ, Option.some.injEq, Prod.mk.injEq] at h; obtain ⟨rfl, rfl, rfl⟩ := h; exact ⟨_, rfl, rfl, Tryd.sizeOf30, Tryd.isAgg30⟩
  | 4, h => by simp only [List.getElem?_cons_zero, List.getElem?_cons_succ, Option.some.injEq, Prod.mk.injEq] at h; obtain ⟨rfl, rfl, rfl⟩ := h; exact ⟨_, rfl, rfl, Tryd.sizeOf30, Tryd.isAgg30⟩
  | 5, h => by simp only [List.getElem?_cons_zero, List.getElem?_cons_succ, Option.some.injEq, Prod.mk.injEq] at h; obtain ⟨rfl, rfl, rfl⟩ := h; exact ⟨_, rfl, rfl, Tryd.sizeOf30, Tryd.isAgg30⟩
  | 6, h => by simp only [List.getElem?_cons_zero, List.getElem?_cons_succ, Option.some.injEq, Prod.mk.injEq] at h; obtain ⟨rfl, rfl, rfl⟩ := h; exact ⟨_, rfl, rfl, Tryd.sizeOf30, Tryd.isAgg30⟩
  | 7, h => by simp only [List.getElem?_cons_zero, List.getElem?_cons_succ, Option.some.injEq, Prod.mk.injEq] at h; obtain ⟨rfl, rfl, rfl⟩ := h; exact ⟨_, rfl, rfl, Tryd.sizeOf30, Tryd.isAgg30⟩
  | 8, h => by simp only [List.getElem?_cons_zero, List.getElem?_cons_succ, Option.some.injEq, Prod.mk.injEq] at h; obtain ⟨rfl, rfl, rfl⟩ := h; exact ⟨_, rfl, rfl, Tryd.sizeOf3, Tryd.isAgg3⟩
  | 9, h => by simp only [List.getElem?_cons_zero, List.getElem?_cons_succ, Option.some.injEq, Prod.mk.injEq] at h; obtain ⟨rfl, rfl, rfl⟩ := h; exact ⟨_, rfl, rfl, Tryd.sizeOf3, Tryd.isAgg3⟩
  | 10, h => by simp only [List.getElem?_cons_zero, List.getElem?_cons_succ, Option.some.injEq, Prod.mk.injEq] at h; obtain ⟨rfl, rfl, rfl⟩ := h; exact ⟨_, rfl, rfl, Tryd.sizeOf25, Tryd.isAgg25⟩
  | 11, h => by simp only [List.getElem?_cons_zero, List.getElem?_cons_succ, Option.some.injEq, Prod.mk.injEq] at h; obtain ⟨rfl, rfl, rfl⟩ := h; exact ⟨_, rfl, rfl, Tryd.sizeOf3, Tryd.isAgg3⟩
  | 12, h => by simp only [List.getElem?_cons_zero, List.getElem?_cons_succ, Option.some.injEq, Prod.mk.injEq] at h; obtain ⟨rfl, rfl, rfl⟩ := h; exact ⟨_, rfl, rfl, Tryd.sizeOf31, Tryd.isAgg31⟩
  | 13, h => by simp only [List.getElem?_cons_zero, List.getElem?_cons_succ, Option.some.injEq, Prod.mk.injEq] at h; obtain ⟨rfl, rfl, rfl⟩ := h; exact ⟨_, rfl, rfl, Tryd.sizeOf32, Tryd.isAgg32⟩
  | 14, h => by simp only [List.getElem?_cons_zero, List.getElem?_cons_succ, Option.some.injEq, Prod.mk.injEq] at h; obtain ⟨rfl, rfl, rfl⟩ := h; exact ⟨_, rfl, rfl, Tryd.sizeOf33, Tryd.isAgg33⟩
  | 15, h => by simp only [List.getElem?_cons_zero, List.getElem?_cons_succ, Option.some.injEq, Prod.mk.injEq] at h; obtain ⟨rfl, rfl, rfl⟩ := h; exact ⟨_, rfl, rfl, Tryd.sizeOf34, Tryd.isAgg34⟩
  | (i + 16), h => by simp at h⟩
instance ty40 : Ty Tryd.prog 40 false 1 [.nilFunc] 8 := ⟨⟨Tryd.t40, _, by kernel_rfl, rfl, rfl, rfl, rfl⟩, Tryd.isAgg40, Tryd.sizeOf40, ⟨_, Tryd.zeroValue40, rfl⟩, ⟨_, Tryd.typeInfo40, rfl⟩⟩
instance hu40 : HasUnd Tryd.prog 40 := ⟨_, Tryd.runUnderlying40⟩
instance ty41 : Ty Tryd.prog 41 false 1 [.slice none 0 0] 24 := ⟨⟨Tryd.t41, _, by kernel_rfl, rfl, rfl, rfl, rfl⟩, Tryd.isAgg41, Tryd.sizeOf41, ⟨_, Tryd.zeroValue41, rfl⟩, ⟨_, Tryd.typeInfo41, rfl⟩⟩
instance hu41 : HasUnd Tryd.prog 41 := ⟨_, Tryd.runUnderlying41⟩
instance sl41 : SlTy Tryd.prog 41 39 := ⟨Tryd.runUnderlying41, Tryd.underlying41⟩
instance ty42 : Ty Tryd.prog 42 false 1 [.slice none 0 0] 24 := ⟨⟨Tryd.t42, _, by kernel_rfl, rfl, rfl, rfl, rfl⟩, Tryd.isAgg42, Tryd.sizeOf42, ⟨_, Tryd.zeroValue42, rfl⟩, ⟨_, Tryd.typeInfo42, rfl⟩⟩
instance hu42 : HasUnd Tryd.prog 42 := ⟨_, Tryd.runUnderlying42⟩
instance sl42 : SlTy Tryd.prog 42 49 := ⟨Tryd.runUnderlying42, Tryd.underlying42⟩
instance ty43 : Ty Tryd.prog 43 true 5 [.slice none 0 0, .slice none 0 0, .slice none 0 0, .slice none 0 0, .slice none 0 0] 120 := ⟨⟨Tryd.t43, _, by kernel_rfl, rfl, rfl, rfl, rfl⟩, Tryd.isAgg43, Tryd.sizeOf43, ⟨_, Tryd.zeroValue43, rfl⟩, ⟨_, Tryd.typeInfo43, rfl⟩⟩
instance hu43 : HasUnd Tryd.prog 43 := ⟨_, Tryd.runUnderlying43⟩
instance ss43 : StTy Tryd.prog 43 [(0, 1, false), (1, 1, false), (2, 1, false), (3, 1, false), (4, 1, false)] := ⟨_, Tryd.runUnderlying43, rfl, fun i off sz ag h => match i, h with
  | 0, h => by simp only [List.getElem?_cons_zero, List.getElem?_cons_succ, Option.some.injEq, Prod.mk.injEq] at h; obtain ⟨rfl, rfl, rfl⟩ := h; exact ⟨_, rfl, rfl, Tryd.sizeOf41, Tryd.isAgg41⟩
  | 1, h => by simp only [List.getElem?_cons_zero, List.getElem?_cons_succ, Option.some.injEq, Prod.mk.injEq] at h; obtain ⟨rfl, rfl, rfl⟩ := h; exact ⟨_, rfl, rfl, Tryd.sizeOf41, Tryd.isAgg41⟩
  | 2, h => by simp only [List.getElem?_cons_zero, List.getElem?_cons_succ, Option.some.injEq, Prod.mk.injEq] at h; obtain ⟨rfl, rfl, rfl⟩ := h; exact ⟨_, rfl, rfl, Tryd.sizeOf42, Tryd.isAgg42⟩
  | 3, h => by simp only [List.getElem?_cons_zero, List.getElem?_cons_succ, Option.some.injEq, Prod.mk.injEq] at h; obtain ⟨rfl, rfl, rfl⟩ := h; exact ⟨_, rfl, rfl, Tryd.sizeOf41, Tryd.isAgg41⟩
  | 4, h => by simp only [List.getElem?_cons_zero, List.getElem?_cons_succ, Option.some.injEq, Prod.mk.injEq] at h; obtain ⟨rfl, rfl, rfl⟩ := h; exact ⟨_, rfl, rfl, Tryd.sizeOf42, Tryd.isAgg42⟩
  | (i + 5), h => by simp at h⟩
instance ty44 : Ty Tryd.prog 44 true 5 [.slice none 0 0, .slice none 0 0, .slice none 0 0, .slice none 0 0, .slice none 0 0] 120 := ⟨⟨Tryd.t44, _, by kernel_rfl, rfl, rfl, rfl, rfl⟩, Tryd.isAgg44, Tryd.sizeOf44, ⟨_, Tryd.zeroValue44, rfl⟩, ⟨_, Tryd.typeInfo44, rfl⟩⟩
instance hu44 : HasUnd Tryd.prog 44 := ⟨_, Tryd.runUnderlying44⟩
instance ss44 : StTy Tryd.prog 44 [(0, 1, false), (1, 1, false), (2, 1, false), (3, 1, false), (4, 1, false)] := ⟨_, Tryd.runUnderlying44, rfl, fun i off sz ag h => match i, h with
  | 0, h => by simp only [List.getElem?_cons_zero, List.getElem?_cons_succ, Option.some.injEq, Prod.mk.injEq] at h; obtain ⟨rfl, rfl, rfl⟩ := h; exact ⟨_, rfl, rfl, Tryd.sizeOf41, Tryd.isAgg41⟩
  | 1, h => by simp only [List.getElem?_cons_zero, List.getElem?_cons_succ, Option.some.injEq, Prod.mk.injEq] at h; obtain ⟨rfl, rfl, rfl⟩ := h; exact ⟨_, rfl, rfl, Tryd.sizeOf41, Tryd.isAgg41⟩
  | 2, h => by simp only [List.getElem?_cons_zero, List.getElem?_cons_succ, Option.some.injEq, Prod.mk.injEq] at h; obtain ⟨rfl, rfl, rfl⟩ := h; exact ⟨_, rfl, rfl, Tryd.sizeOf42, Tryd.isAgg42⟩
  | 3, h => by simp only [List.getElem?_cons_zero, List.getElem?_cons_succ, Option.some.injEq, Prod.mk.injEq] at h; obtain ⟨rfl, rfl, rfl⟩ := h; exact ⟨_, rfl, rfl, Tryd.sizeOf41, Tryd.isAgg41⟩
  | 4, h => by simp only [List.getElem?_cons_zero, List.getElem?_cons_succ, Option.some.injEq, Prod.mk.injEq] at h; obtain ⟨rfl, rfl, rfl⟩ := h; exact ⟨_, rfl, rfl, Tryd.sizeOf42, Tryd.isAgg42⟩
  | (i + 5), h => by simp at h⟩
instance ty45 : Ty Tryd.prog 45 false 1 [.nilFunc] 8 := ⟨⟨Tryd.t45, _, by kernel_rfl, rfl, rfl, rfl, rfl⟩, Tryd.isAgg45, Tryd.sizeOf45, ⟨_, Tryd.zeroValue45, rfl⟩, ⟨_, Tryd.typeInfo45, rfl⟩⟩
instance hu45 : HasUnd Tryd.prog 45 := ⟨_, Tryd.runUnderlying45⟩
instance ty46 : Ty Tryd.prog 46 false 1 [.map none] 8 := ⟨⟨Tryd.t46, _, by kernel_rfl, rfl, rfl, rfl, rfl⟩, Tryd.isAgg46, Tryd.sizeOf46, ⟨_, Tryd.zeroValue46, rfl⟩, ⟨_, Tryd.typeInfo46, rfl⟩⟩
instance hu46 : HasUnd Tryd.prog 46 := ⟨_, Tryd.runUnderlying46⟩
instance mt46 : MapTy Tryd.prog 46 3 4 := ⟨Tryd.runUnderlying46, Tryd.underlying46⟩
instance ty47 : Ty Tryd.prog 47 false 1 [.nilFunc] 8 := ⟨⟨Tryd.t47, _, by kernel_rfl, rfl, rfl, rfl, rfl⟩, Tryd.isAgg47, Tryd.sizeOf47, ⟨_, Tryd.zeroValue47, rfl⟩, ⟨_, Tryd.typeInfo47, rfl⟩⟩
instance hu47 : HasUnd Tryd.prog 47 := ⟨_, Tryd.runUnderlying47⟩
instance ty48 : Ty Tryd.prog 48 true 17 [.int .i64 0, .int .u8 0, .int .u64 0, .int .u64 0, .int .u64 0, .int .u64 0, .int .u64 0, .int .u64 0, .int .u64 0, .int .i64 0, .int .i64 0, .int .i64 0, .int .i64 0, .slice none 0 0, .slice none 0 0, .slice none 0 0, .slice none 0 0] 200 := ⟨⟨Tryd.t48, _, by kernel_rfl, rfl, rfl, rfl, rfl⟩, Tryd.isAgg48, Tryd.sizeOf48, ⟨_, Tryd.zeroValue48, rfl⟩, ⟨_, Tryd.typeInfo48, rfl⟩⟩
instance hu48 : HasUnd Tryd.prog 48 := ⟨_, Tryd.runUnderlying48⟩
instance ss48 : StTy Tryd.prog 48 [(0, 1, false), (1, 16, true)] := ⟨_, Tryd.runUnderlying48, rfl, fun i off sz ag h => match i, h with
  | 0, h => by simp only [List.getElem?_cons_zero, List.getElem?_cons_succ, Option.some.injEq, Prod.mk.injEq] at h; obtain ⟨rfl, rfl, rfl⟩ := h; exact ⟨_, rfl, rfl, Tryd.sizeOf3, Tryd.isAgg3⟩
  | 1, h => by simp only [List.getElem?_cons_zero, List.getElem?_cons_succ, Option.some.injEq, Prod.mk.injEq] at h; obtain ⟨rfl, rfl, rfl⟩ := h; exact ⟨_, rfl, rfl, Tryd.sizeOf39, Tryd.isAgg39⟩
  | (i + 2), h => by simp at h⟩
instance ty49 : Ty Tryd.prog 49 true 17 [.int .i64 0, .int .u8 0, .int .u64 0, .int .u64 0, .int .u64 0, .int .u64 0, .int .u64 0, .int .u64 0, .int .u64 0, .int .i64 0, .int .i64 0, .int .i64 0, .int .i64 0, .slice none 0 0, .slice none 0 0, .slice none 0 0, .slice none 0 0] 200 := ⟨⟨Tryd.t49, _, by kernel_rfl, rfl, rfl, rfl, rfl⟩, Tryd.isAgg49, Tryd.sizeOf49, ⟨_, Tryd.zeroValue49, rfl⟩, ⟨_, Tryd.typeInfo49, rfl⟩⟩
instance hu49 : HasUnd Tryd.prog 49 := ⟨_, Tryd.runUnderlying49⟩
instance ss49 : StTy Tryd.prog 49 [(0, 1, false), (1, 16, true)] := ⟨_, Tryd.runUnderlying49, rfl, fun i off sz ag h => match i, h with
  | 0, h => by simp only [List.getElem?_cons_zero, List.getElem?_cons_succ, Option.some.injEq, Prod.mk.injEq] at h; obtain ⟨rfl, rfl, rfl⟩ := h; exact ⟨_, rfl, rfl, Tryd.sizeOf3, Tryd.isAgg3⟩
  | 1, h => by simp only [List.getElem?_cons_zero, List.getElem?_cons_succ, Option.some.injEq, Prod.mk.injEq] at h; obtain ⟨rfl, rfl, rfl⟩ := h; exact ⟨_, rfl, rfl, Tryd.sizeOf39, Tryd.isAgg39⟩
  | (i + 2), h => by simp at h⟩
instance hu50 : HasUnd Tryd.prog 50 := ⟨_, Tryd.runUnderlying50⟩
instance ty51 : Ty Tryd.prog 51 false 1 [.nilFunc] 8 := ⟨⟨Tryd.t51, _, by kernel_rfl, rfl, rfl, rfl, rfl⟩, Tryd.isAgg51, Tryd.sizeOf51, ⟨_, Tryd.zeroValue51, rfl⟩, ⟨_, Tryd.typeInfo51, rfl⟩⟩
instance hu51 : HasUnd Tryd.prog 51 := ⟨_, Tryd.runUnderlying51⟩
instance ty52 : Ty Tryd.prog 52 false 1 [.nilFunc] 8 := ⟨⟨Tryd.t52, _, by kernel_rfl, rfl, rfl, rfl, rfl⟩, Tryd.isAgg52, Tryd.sizeOf52, ⟨_, Tryd.zeroValue52, rfl⟩, ⟨_, Tryd.typeInfo52, rfl⟩⟩
instance hu52 : HasUnd Tryd.prog 52 := ⟨_, Tryd.runUnderlying52⟩
instance ty53 : Ty Tryd.prog 53 false 1 [.nilFunc] 8 := ⟨⟨Tryd.t53, _, by kernel_rfl, rfl, rfl, rfl, rfl⟩, Tryd.isAgg53, Tryd.sizeOf53, ⟨_, Tryd.zeroValue53, rfl⟩, ⟨_, Tryd.typeInfo53, rfl⟩⟩
instance hu53 : HasUnd Tryd.prog 53 := ⟨_, Tryd.runUnderlying53⟩
instance ty54 : Ty Tryd.prog 54 false 1 [.slice none 0 0] 24 := ⟨⟨Tryd.t54, _, by kernel_rfl, rfl, rfl, rfl, rfl⟩, Tryd.isAgg54, Tryd.sizeOf54, ⟨_, Tryd.zeroValue54, rfl⟩, ⟨_, Tryd.typeInfo54, rfl⟩⟩
instance hu54 : HasUnd Tryd.prog 54 := ⟨_, Tryd.runUnderlying54⟩
instance sl54 : SlTy Tryd.prog 54 5 := ⟨Tryd.runUnderlying54, Tryd.underlying54⟩
instance ty55 : Ty Tryd.prog 55 false 1 [.map none] 8 := ⟨⟨Tryd.t55, _, by kernel_rfl, rfl, rfl, rfl, rfl⟩, Tryd.isAgg55, Tryd.sizeOf55, ⟨_, Tryd.zeroValue55, rfl⟩, ⟨_, Tryd.typeInfo55, rfl⟩⟩
instance hu55 : HasUnd Tryd.prog 55 := ⟨_, Tryd.runUnderlying55⟩
instance mt55 : MapTy Tryd.prog 55 30 4 := ⟨Tryd.runUnderlying55, Tryd.underlying55⟩
instance ty56 : Ty Tryd.prog 56 true 2 [.int .u64 0, .slice none 0 0] 32 := ⟨⟨Tryd.t56, _, by kernel_rfl, rfl, rfl, rfl, rfl⟩, Tryd.isAgg56, Tryd.sizeOf56, ⟨_, Tryd.zeroValue56, rfl⟩, ⟨_, Tryd.typeInfo56, rfl⟩⟩
instance hu56 : HasUnd Tryd.prog 56 := ⟨_, Tryd.runUnderlying56⟩
instance ss56 : StTy Tryd.prog 56 [(0, 1, false), (1, 1, false)] := ⟨_, Tryd.runUnderlying56, rfl, fun i off sz ag h => match i, h with
  | 0, h => by simp only [List.getElem?_cons_zero, List.getElem?_cons_succ, Option.some.injEq, Prod.mk.injEq] at h; obtain ⟨rfl, rfl, rfl⟩ := h; exact ⟨_, rfl, rfl, Tryd.sizeOf30, Tryd.isAgg30⟩
  | 1, h => by simp only [List.getElem?_cons_zero, List.getElem?_cons_succ, Option.some.injEq, Prod.mk.injEq] at h; obtain ⟨rfl, rfl, rfl⟩ := h; exact ⟨_, rfl, rfl, Tryd.sizeOf33, Tryd.isAgg33⟩
  | (i + 2), h => by simp at h⟩
instance ty57 : Ty Tryd.prog 57 true 2 [.int .u64 0, .slice none 0 0] 32 := ⟨⟨Tryd.t57, _, by kernel_rfl, rfl, rfl, rfl, rfl⟩, Tryd.isAgg57, Tryd.sizeOf57, ⟨_, Tryd.zeroValue57, rfl⟩, ⟨_, Tryd.typeInfo57, rfl⟩⟩
instance hu57 : HasUnd Tryd.prog 57 := ⟨_, Tryd.runUnderlying57⟩
instance ss57 : StTy Tryd.prog 57 [(0, 1, false), (1, 1, false)] := ⟨_, Tryd.runUnderlying57, rfl, fun i off sz ag h => match i, h with
  | 0, h => by simp only [List.getElem?_cons_zero, List.getElem?_cons_succ, Option.some.injEq, Prod.mk.injEq] at h; obtain ⟨rfl, rfl, rfl⟩ := h; exact ⟨_, rfl, rfl, Tryd.sizeOf30, Tryd.isAgg30⟩
  | 1, h => by simp only [List.getElem?_cons_zero, List.getElem?_cons_succ, Option.some.injEq, Prod.mk.injEq] at h; obtain ⟨rfl, rfl, rfl⟩ := h; exact ⟨_, rfl, rfl, Tryd.sizeOf33, Tryd.isAgg33⟩
  | (i + 2), h => by simp at h⟩
instance ty58 : Ty Tryd.prog 58 false 1 [.slice none 0 0] 24 := ⟨⟨Tryd.t58, _, by kernel_rfl, rfl, rfl, rfl, rfl⟩, Tryd.isAgg58, Tryd.sizeOf58, ⟨_, Tryd.zeroValue58, rfl⟩, ⟨_, Tryd.typeInfo58, rfl⟩⟩
instance hu58 : HasUnd Tryd.prog 58 := ⟨_, Tryd.runUnderlying58⟩
instance sl58 : SlTy Tryd.prog 58 74 := ⟨Tryd.runUnderlying58, Tryd.underlying58⟩
instance ty59 : Ty Tryd.prog 59 false 1 [.nilFunc] 8 := ⟨⟨Tryd.t59, _, by kernel_rfl, rfl, rfl, rfl, rfl⟩, Tryd.isAgg59, Tryd.sizeOf59, ⟨_, Tryd.zeroValue59, rfl⟩, ⟨_, Tryd.typeInfo59, rfl⟩⟩
instance hu59 : HasUnd Tryd.prog 59 := ⟨_, Tryd.runUnderlying59⟩
instance ty60 : Ty Tryd.prog 60 false 1 [.nilFunc] 8 := ⟨⟨Tryd.t60, _, by kernel_rfl, rfl, rfl, rfl, rfl⟩, Tryd.isAgg60, Tryd.sizeOf60, ⟨_, Tryd.zeroValue60, rfl⟩, ⟨_, Tryd.typeInfo60, rfl⟩⟩
instance hu60 : HasUnd Tryd.prog 60 := ⟨_, Tryd.runUnderlying60⟩
instance ty61 : Ty Tryd.prog 61 false 1 [.nilFunc] 8 := ⟨⟨Tryd.t61, _, by kernel_rfl, rfl, rfl, rfl, rfl⟩, Tryd.isAgg61, Tryd.sizeOf61, ⟨_, Tryd.zeroValue61, rfl⟩, ⟨_, Tryd.typeInfo61, rfl⟩⟩
instance hu61 : HasUnd Tryd.prog 61 := ⟨_, Tryd.runUnderlying61⟩
instance ty62 : Ty Tryd.prog 62 false 1 [.nilFunc] 8 := ⟨⟨Tryd.t62, _, by kernel_rfl, rfl, rfl, rfl, rfl⟩, Tryd.isAgg62, Tryd.sizeOf62, ⟨_, Tryd.zeroValue62, rfl⟩, ⟨_, Tryd.typeInfo62, rfl⟩⟩
instance hu62 : HasUnd Tryd.prog 62 := ⟨_, Tryd.runUnderlying62⟩
instance ty63 : Ty Tryd.prog 63 false 1 [.map none] 8 := ⟨⟨Tryd.t63, _, by kernel_rfl, rfl, rfl, rfl, rfl⟩, Tryd.isAgg63, Tryd.sizeOf63, ⟨_, Tryd.zeroValue63, rfl⟩, ⟨_, Tryd.typeInfo63, rfl⟩⟩
instance hu63 : HasUnd Tryd.prog 63 := ⟨_, Tryd.runUnderlying63⟩
instance mt63 : MapTy Tryd.prog 63 30 70 := ⟨Tryd.runUnderlying63, Tryd.underlying63⟩
instance ty64 : Ty Tryd.prog 64 true 7 [.int .i64 0, .int .i64 0, .int .u64 0, .int .u64 0, .int .u64 0, .map none, .map none] 56 := ⟨⟨Tryd.t64, _, by kernel_rfl, rfl, rfl, rfl, rfl⟩, Tryd.isAgg64, Tryd.sizeOf64, ⟨_, Tryd.zeroValue64, rfl⟩, ⟨_, Tryd.typeInfo64, rfl⟩⟩
instance hu64 : HasUnd Tryd.prog 64 := ⟨_, Tryd.runUnderlying64⟩
instance ss64 : StTy Tryd.prog 64 [(0, 1, false), (1, 1, false), (2, 1, false), (3, 1, false), (4, 1, false), (5, 1, false), (6, 1, false)] := ⟨_, Tryd.runUnderlying64, rfl, fun i off sz ag h => match i, h with
  | 0, h => by simp only [List.getElem?_cons_zero, List.getElem?_cons_succ, Option.some.injEq, Prod.mk.injEq] at h; obtain ⟨rfl, rfl, rfl⟩ := h; exact ⟨_, rfl, rfl, Tryd.sizeOf3, Tryd.isAgg3⟩
  | 1, h => by simp only [List.getElem?_cons_zero, List.getElem?_cons_succ, Option.some.injEq, Prod.mk.injEq] at h; obtain ⟨rfl, rfl, rfl⟩ := h; exact ⟨_, rfl, rfl, Tryd.sizeOf3, Tryd.isAgg3⟩
  | 2, h => by simp only [List.getElem?_cons_zero, List.getElem?_cons_succ, Option.some.injEq, Prod.mk.injEq] at h; obtain ⟨rfl, rfl, rfl⟩ := h; exact ⟨_, rfl, rfl, Tryd.sizeOf30, Tryd.isAgg30⟩
  | 3, h => by simp only [List.getElem?_cons_zero, List.getElem?_cons_succ, Option.some.injEq, Prod.mk.injEq] at h; obtain ⟨rfl, rfl, rfl⟩ := h; exact ⟨_, rfl, rfl, Tryd.sizeOf30, Tryd.isAgg30⟩
  | 4, h => by simp only [List.getElem?_cons_zero, List.getElem?_cons_succ, Option.some.injEq, Prod.mk.injEq] at h; obtain ⟨rfl, rfl, rfl⟩ := h; exact ⟨_, rfl, rfl, Tryd.sizeOf30, Tryd.isAgg30⟩
  | 5, h => by simp only [List.getElem?_cons_zero, List.getElem?_cons_succ, Option.some.injEq, Prod.mk.injEq] at h; obtain ⟨rfl, rfl, rfl⟩ := h; exact ⟨_, rfl, rfl, Tryd.sizeOf63, Tryd.isAgg63⟩
  | 6, h => by simp only [List.getElem?_cons_zero, List.getElem?_cons_succ, Option.some.injEq, Prod.mk.injEq] at h; obtain ⟨rfl, rfl, rfl⟩ := h; exact ⟨_, rfl, rfl, Tryd.sizeOf29, Tryd.isAgg29⟩
  | (i + 7), h => by simp at h⟩
instance ty65 : Ty Tryd.prog 65 true 7 [.int .i64 0, .int .i64 0, .int .u64 0, .int .u64 0, .int .u64 0, .map none, .map none] 56 := ⟨⟨Tryd.t65, _, by kernel_rfl, rfl, rfl, rfl, rfl⟩, Tryd.isAgg65, Tryd.sizeOf65, ⟨_, Tryd.zeroValue65, rfl⟩, ⟨_, Tryd.typeInfo65, rfl⟩⟩
instance hu65 : HasUnd Tryd.prog 65 := ⟨_, Tryd.runUnderlying65⟩
instance ss65 : StTy Tryd.prog 65 [(0, 1, false), (1, 1, false), (2, 1, false), (3, 1, false), (4, 1, false), (5, 1, false), (6, 1, false)] := ⟨_, Tryd.runUnderlying65, rfl, fun i off sz ag h => match i, h with
  | 0, h => by simp only [List.getElem?_cons_zero, List.getElem?_cons_succ, Option.some.injEq, Prod.mk.injEq] at h; obtain ⟨rfl, rfl, rfl⟩ := h; exact ⟨_, rfl, rfl, Tryd.sizeOf3, Tryd.isAgg3⟩
  | 1, h => by simp only [List.getElem?_cons_zero, List.getElem?_cons_succ, Option.some.injEq, Prod.mk.injEq] at h; obtain ⟨rfl, rfl, rfl⟩ := h; exact ⟨_, rfl, rfl, Tryd.sizeOf3, Tryd.isAgg3⟩
  | 2, h => by simp only [List.getElem?_cons_zero, List.getElem?_cons_succ, Option.some.injEq, Prod.mk.injEq] at h; obtain ⟨rfl, rfl, rfl⟩ := h; exact ⟨_, rfl, rfl, Tryd.sizeOf30, Tryd.isAgg30⟩
  | 3, h => by simp only [List.getElem?_cons_zero, List.getElem?_cons_succ, Option.some.injEq, Prod.mk.injEq] at h; obtain ⟨rfl, rfl, rfl⟩ := h; exact ⟨_, rfl, rfl, Tryd.sizeOf30, Tryd.isAgg30⟩
  | 4, h => by simp only [List.getElem?_cons_zero, List.getElem?_cons_succ, Option.some.injEq, Prod.mk.injEq] at h; obtain ⟨rfl, rfl, rfl⟩ := h; exact ⟨_, rfl, rfl, Tryd.sizeOf30, Tryd.isAgg30⟩
  | 5, h => by simp only [List.getElem?_cons_zero, List.getElem?_cons_succ, Option.some.injEq, Prod.mk.injEq] at h; obtain ⟨rfl, rfl, rfl⟩ := h; exact ⟨_, rfl, rfl, Tryd.sizeOf63, Tryd.isAgg63⟩
  | 6, h => by simp only [List.getElem?_cons_zero, List.getElem?_cons_succ, Option.some.injEq, Prod.mk.injEq] at h; obtain ⟨rfl, rfl, rfl⟩ := h; exact ⟨_, rfl, rfl, Tryd.sizeOf29, Tryd.isAgg29⟩
  | (i + 7), h => by simp at h⟩
instance ty66 : Ty Tryd.prog 66 false 1 [.nilFunc] 8 := ⟨⟨Tryd.t66, _, by kernel_rfl, rfl, rfl, rfl, rfl⟩, Tryd.isAgg66, Tryd.sizeOf66, ⟨_, Tryd.zeroValue66, rfl⟩, ⟨_, Tryd.typeInfo66, rfl⟩⟩
instance hu66 : HasUnd Tryd.prog 66 := ⟨_, Tryd.runUnderlying66⟩
instance ty67 : Ty Tryd.prog 67 false 1 [.nilFunc] 8 := ⟨⟨Tryd.t67, _, by kernel_rfl, rfl, rfl, rfl, rfl⟩, Tryd.isAgg67, Tryd.sizeOf67, ⟨_, Tryd.zeroValue67, rfl⟩, ⟨_, Tryd.typeInfo67, rfl⟩⟩
instance hu67 : HasUnd Tryd.prog 67 := ⟨_, Tryd.runUnderlying67⟩
instance ty68 : Ty Tryd.prog 68 false 1 [.nilFunc] 8 := ⟨⟨Tryd.t68, _, by kernel_rfl, rfl, rfl, rfl, rfl⟩, Tryd.isAgg68, Tryd.sizeOf68, ⟨_, Tryd.zeroValue68, rfl⟩, ⟨_, Tryd.typeInfo68, rfl⟩⟩
instance hu68 : HasUnd Tryd.prog 68 := ⟨_, Tryd.runUnderlying68⟩
instance ty69 : Ty Tryd.prog 69 false 1 [.nilFunc] 8 := ⟨⟨Tryd.t69, _, by kernel_rfl, rfl, rfl, rfl, rfl⟩, Tryd.isAgg69, Tryd.sizeOf69, ⟨_, Tryd.zeroValue69, rfl⟩, ⟨_, Tryd.typeInfo69, rfl⟩⟩
instance hu69 : HasUnd Tryd.prog 69 := ⟨_, Tryd.runUnderlying69⟩
instance ty70 : Ty Tryd.prog 70 false 1 [.pointer none] 8 := ⟨⟨Tryd.t70, _, by kernel_rfl, rfl, rfl, rfl, rfl⟩, Tryd.isAgg70, Tryd.sizeOf70, ⟨_, Tryd.zeroValue70, rfl⟩, ⟨_, Tryd.typeInfo70, rfl⟩⟩
instance hu70 : HasUnd Tryd.prog 70 := ⟨_, Tryd.runUnderlying70⟩
instance pt70 : PtrTy Tryd.prog 70 76 := ⟨Tryd.runUnderlying70, Tryd.underlying70⟩
instance ty71 : Ty Tryd.prog 71 false 1 [.nilFunc] 8 := ⟨⟨Tryd.t71, _, by kernel_rfl, rfl, rfl, rfl, rfl⟩, Tryd.isAgg71, Tryd.sizeOf71, ⟨_, Tryd.zeroValue71, rfl⟩, ⟨_, Tryd.typeInfo71, rfl⟩⟩
instance hu71 : HasUnd Tryd.prog 71 := ⟨_, Tryd.runUnderlying71⟩
instance ty72 : Ty Tryd.prog 72 false 1 [.nilFunc] 8 := ⟨⟨Tryd.t72, _, by kernel_rfl, rfl, rfl, rfl, rfl⟩, Tryd.isAgg72, Tryd.sizeOf72, ⟨_, Tryd.zeroValue72, rfl⟩, ⟨_, Tryd.typeInfo72, rfl⟩⟩
instance hu72 : HasUnd Tryd.prog 72 := ⟨_, Tryd.runUnderlying72⟩
instance ty73 : Ty Tryd.prog 73 true 8 [.int .u64 0, .int .u64 0, .int .u64 0, .int .u64 0, .int .i64 0, .slice none 0 0, .slice none 0 0, .slice none 0 0] 112 := ⟨⟨Tryd.t73, _, by kernel_rfl, rfl, rfl, rfl, rfl⟩, Tryd.isAgg73, Tryd.sizeOf73, ⟨_, Tryd.zeroValue73, rfl⟩, ⟨_, Tryd.typeInfo73, rfl⟩⟩
instance hu73 : HasUnd Tryd.prog 73 := ⟨_, Tryd.runUnderlying73⟩
instance ss73 : StTy Tryd.prog 73 [(0, 1, false), (1, 1, false), (2, 1, false), (3, 1, false), (4, 1, false), (5, 1, false), (6, 1, false), (7, 1, false)] := ⟨_, Tryd.runUnderlying73, rfl, fun i off sz ag h => match i, h with
  | 0, h => by simp only [List.getElem?_cons_zero, List.getElem?_cons_succ, Option.some.injEq, Prod.mk.injEq] at h; obtain ⟨rfl, rfl, rfl⟩ := h; exact ⟨_, rfl, rfl, Tryd.sizeOf30, Tryd.isAgg30⟩
  | 1, h => by simp only [List.getElem?_cons_zero, List.getElem?_cons_succ, Option.some.injEq, Prod.mk.injEq] at h; obtain ⟨rfl, rfl, rfl⟩ := h; exact ⟨_, rfl, rfl, Tryd.sizeOf30, Tryd.isAgg30⟩
  | 2, h => by simp only [List.getElem?_cons_zero, List.getElem?_cons_succ, Option.some.injEq, Prod.mk.injEq] at h; obtain ⟨rfl, rfl, rfl⟩ := h; exact ⟨_, rfl, rfl, Tryd.sizeOf30, Tryd.isAgg30⟩
  | 3, h => by simp only [List.getElem?_cons_zero, List.getElem?_cons_succ, Option.some.injEq, Prod.mk.injEq] at h; obtain ⟨rfl, rfl, rfl⟩ := h; exact ⟨_, rfl, rfl, Tryd.sizeOf30, Tryd.isAgg30⟩
  | 4, h => by simp only [List.getElem?_cons_zero, List.getElem?_cons_succ, Option.some.injEq, Prod.mk.injEq] at h; obtain ⟨rfl, rfl, rfl⟩ := h; exact ⟨_, rfl, rfl, Tryd.sizeOf3, Tryd.isAgg3⟩
  | 5, h => by simp only [List.getElem?_cons_zero, List.getElem?_cons_succ, Option.some.injEq, Prod.mk.injEq] at h; obtain ⟨rfl, rfl, rfl⟩ := h; exact ⟨_, rfl, rfl, Tryd.sizeOf31, Tryd.isAgg31⟩
  | 6, h => by simp only [List.getElem?_cons_zero, List.getElem?_cons_succ, Option.some.injEq, Prod.mk.injEq] at h; obtain ⟨rfl, rfl, rfl⟩ := h; exact ⟨_, rfl, rfl, Tryd.sizeOf31, Tryd.isAgg31⟩
  | 7, h => by simp only [List.getElem?_cons_zero, List.getElem?_cons_succ, Option.some.injEq, Prod.mk.injEq] at h; obtain ⟨rfl, rfl, rfl⟩ := h; exact ⟨_, rfl, rfl, Tryd.sizeOf31, Tryd.isAgg31⟩
  | (i + 8), h => by simp at h⟩
instance ty74 : Ty Tryd.prog 74 true 8 [.int .u64 0, .int .u64 0, .int .u64 0, .int .u64 0, .int .i64 0, .slice none 0 0, .slice none 0 0, .slice none 0 0] 112 := ⟨⟨Tryd.t74, _, by kernel_rfl, rfl, rfl, rfl, rfl⟩, Tryd.isAgg74, Tryd.sizeOf74, ⟨_, Tryd.zeroValue74, rfl⟩, ⟨_, Tryd.typeInfo74, rfl⟩⟩
instance hu74 : HasUnd Tryd.prog 74 := ⟨_, Tryd.runUnderlying74⟩
instance ss74 : StTy Tryd.prog 74 [(0, 1, false), (1, 1, false), (2, 1, false), (3, 1, false), (4, 1, false), (5, 1, false), (6, 1, false), (7, 1, false)] := ⟨_, Tryd.runUnderlying74, rfl, fun i off sz ag h => match i, h with
  | 0, h => by simp only [List.getElem?_cons_zero, List.getElem?_cons_succ, Option.some.injEq, Prod.mk.injEq] at h; obtain ⟨rfl, rfl, rfl⟩ := h; exact ⟨_, rfl, rfl, Tryd.sizeOf30, Tryd.isAgg30⟩
  | 1, h => by simp only [List.getElem?_cons_zero, List.getElem?_cons_succ, Option.some.injEq, Prod.mk.injEq] at h; obtain ⟨rfl, rfl, rfl⟩ := h; exact ⟨_, rfl, rfl, Tryd.sizeOf30, Tryd.isAgg30⟩
  | 2, h => by simp only [List.getElem?_cons_zero, List.getElem?_cons_succ, Option.some.injEq, Prod.mk.injEq] at h; obtain ⟨rfl, rfl, rfl⟩ := h; exact ⟨_, rfl, rfl, Tryd.sizeOf30, Tryd.isAgg30⟩
  | 3, h => by simp only [List.getElem?_cons_zero, List.getElem?_cons_succ, Option.some.injEq, Prod.mk.injEq] at h; obtain ⟨rfl, rfl, rfl⟩ := h; exact ⟨_, rfl, rfl, Tryd.sizeOf30, Tryd.isAgg30⟩
  | 4, h => by simp only [List.getElem?_cons_zero, List.getElem?_cons_succ, Option.some.injEq, Prod.mk.injEq] at h; obtain ⟨rfl, rfl, rfl⟩ := h; exact ⟨_, rfl, rfl, Tryd.sizeOf3, Tryd.isAgg3⟩
  | 5, h => by simp only [List.getElem?_cons_zero, List.getElem?_cons_succ, Option.some.injEq, Prod.mk.injEq] at h; obtain ⟨rfl, rfl, rfl⟩ := h; exact ⟨_, rfl, rfl, Tryd.sizeOf31, Tryd.isAgg31⟩
  | 6, h => by simp only [List.getElem?_cons_zero, List.getElem?_cons_succ, Option.some.injEq, Prod.mk.injEq] at h; obtain ⟨rfl, rfl, rfl⟩ := h; exact ⟨_, rfl, rfl, Tryd.sizeOf31, Tryd.isAgg31⟩
  | 7, h => by simp only [List.getElem?_cons_zero, List.getElem?_cons_succ, Option.some.injEq, Prod.mk.injEq] at h; obtain ⟨rfl, rfl, rfl⟩ := h; exact ⟨_, rfl, rfl, Tryd.sizeOf31, Tryd.isAgg31⟩
  | (i + 8), h => by simp at h⟩
instance ty75 : Ty Tryd.prog 75 true 9 [.int .u64 0, .int .u64 0, .int .u64 0, .int .u64 0, .int .i64 0, .slice none 0 0, .slice none 0 0, .slice none 0 0, .slice none 0 0] 136 := ⟨⟨Tryd.t75, _, by kernel_rfl, rfl, rfl, rfl, rfl⟩, Tryd.isAgg75, Tryd.sizeOf75, ⟨_, Tryd.zeroValue75, rfl⟩, ⟨_, Tryd.typeInfo75, rfl⟩⟩
instance hu75 : HasUnd Tryd.prog 75 := ⟨_, Tryd.runUnderlying75⟩
instance ss75 : StTy Tryd.prog 75 [(0, 8, true), (8, 1, false)] := ⟨_, Tryd.runUnderlying75, rfl, fun i off sz ag h => match i, h with
  | 0, h => by simp only [List.getElem?_cons_zero, List.getElem?_cons_succ, Option.some.injEq, Prod.mk.injEq] at h; obtain ⟨rfl, rfl, rfl⟩ := h; exact ⟨_, rfl, rfl, Tryd.sizeOf74, Tryd.isAgg74⟩
  | 1, h => by simp only [List.getElem?_cons_zero, List.getElem?_cons_succ, Option.some.injEq, Prod.mk.injEq] at h; obtain ⟨rfl, rfl, rfl⟩ := h; exact ⟨_, rfl, rfl, Tryd.sizeOf32, Tryd.isAgg32⟩
  | (i + 2), h => by simp at h⟩
instance ty76 : Ty Tryd.prog 76 true 9 [.int .u64 0, .int .u64 0, .int .u64 0, .int .u64 0, .int .i64 0, .slice none 0 0, .slice none 0 0, .slice none 0 0, .slice none 0 0] 136 := ⟨⟨Tryd.t76, _, by kernel_rfl, rfl, rfl, rfl, rfl⟩, Tryd.isAgg76, Tryd.sizeOf76, ⟨_, Tryd.zeroValue76, rfl⟩, ⟨_, Tryd.typeInfo76, rfl⟩⟩
instance hu76 : HasUnd Tryd.prog 76 := ⟨_, Tryd.runUnderlying76⟩
instance ss76 : StTy Tryd.prog 76 [(0, 8, true), (8, 1, false)] := ⟨_, Tryd.runUnderlying76, rfl, fun i off sz ag h => match i, h with
  | 0, h => by simp only [List.getElem?_cons_zero, List.getElem?_cons_succ, Option.some.injEq, Prod.mk.injEq] at h; obtain ⟨rfl, rfl, rfl⟩ := h; exact ⟨_, rfl, rfl, Tryd.sizeOf74, Tryd.isAgg74⟩
  | 1, h => by simp only [List.getElem?_cons_zero, List.getElem?_cons_succ, Option.some.injEq, Prod.mk.injEq] at h; obtain ⟨rfl, rfl, rfl⟩ := h; exact ⟨_, rfl, rfl, Tryd.sizeOf32, Tryd.isAgg32⟩
  | (i + 2), h => by simp at h⟩
instance ty77 : Ty Tryd.prog 77 false 1 [.slice none 0 0] 24 := ⟨⟨Tryd.t77, _, by kernel_rfl, rfl, rfl, rfl, rfl⟩, Tryd.isAgg77, Tryd.sizeOf77, ⟨_, Tryd.zeroValue77, rfl⟩, ⟨_, Tryd.typeInfo77, rfl⟩⟩
instance hu77 : HasUnd Tryd.prog 77 := ⟨_, Tryd.runUnderlying77⟩
instance sl77 : SlTy Tryd.prog 77 30 := ⟨Tryd.runUnderlying77, Tryd.underlying77⟩
instance ty78 : Ty Tryd.prog 78 false 1 [.nilFunc] 8 := ⟨⟨Tryd.t78, _, by kernel_rfl, rfl, rfl, rfl, rfl⟩, Tryd.isAgg78, Tryd.sizeOf78, ⟨_, Tryd.zeroValue78, rfl⟩, ⟨_, Tryd.typeInfo78, rfl⟩⟩
instance hu78 : HasUnd Tryd.prog 78 := ⟨_, Tryd.runUnderlying78⟩
instance ty79 : Ty Tryd.prog 79 false 1 [.nilFunc] 8 := ⟨⟨Tryd.t79, _, by kernel_rfl, rfl, rfl, rfl, rfl⟩, Tryd.isAgg79, Tryd.sizeOf79, ⟨_, Tryd.zeroValue79, rfl⟩, ⟨_, Tryd.typeInfo79, rfl⟩⟩
instance hu79 : HasUnd Tryd.prog 79 := ⟨_, Tryd.runUnderlying79⟩
instance ty80 : Ty Tryd.prog 80 false 1 [.nilFunc] 8 := ⟨⟨Tryd.t80, _, by kernel_rfl, rfl, rfl, rfl, rfl⟩, Tryd.isAgg80, Tryd.sizeOf80, ⟨_, Tryd.zeroValue80, rfl⟩, ⟨_, Tryd.typeInfo80, rfl⟩⟩
instance hu80 : HasUnd Tryd.prog 80 := ⟨_, Tryd.runUnderlying80⟩
instance ty81 : Ty Tryd.prog 81 false 1 [.nilFunc] 8 := ⟨⟨Tryd.t81, _, by kernel_rfl, rfl, rfl, rfl, rfl⟩, Tryd.isAgg81, Tryd.sizeOf81, ⟨_, Tryd.zeroValue81, rfl⟩, ⟨_, Tryd.typeInfo81, rfl⟩⟩
instance hu81 : HasUnd Tryd.prog 81 := ⟨_, Tryd.runUnderlying81⟩
instance ty82 : Ty Tryd.prog 82 false 1 [.nilFunc] 8 := ⟨⟨Tryd.t82, _, by kernel_rfl, rfl, rfl, rfl, rfl⟩, Tryd.isAgg82, Tryd.sizeOf82, ⟨_, Tryd.zeroValue82, rfl⟩, ⟨_, Tryd.typeInfo82, rfl⟩⟩
instance hu82 : HasUnd Tryd.prog 82 := ⟨_, Tryd.runUnderlying82⟩
instance ty83 : Ty Tryd.prog 83 false 1 [.int .u64 0] 8 := ⟨⟨Tryd.t83, _, by kernel_rfl, rfl, rfl, rfl, rfl⟩, Tryd.isAgg83, Tryd.sizeOf83, ⟨_, Tryd.zeroValue83, rfl⟩, ⟨_, Tryd.typeInfo83, rfl⟩⟩
instance hu83 : HasUnd Tryd.prog 83 := ⟨_, Tryd.runUnderlying83⟩
instance it83 : IntTy Tryd.prog 83 .u64 := ⟨Tryd.runUnderlying83, Tryd.underlying83⟩
instance ty84 : Ty Tryd.prog 84 true 3 [.int .u64 0, .int .u64 0, .slice none 0 0] 40 := ⟨⟨Tryd.t84, _, by kernel_rfl, rfl, rfl, rfl, rfl⟩, Tryd.isAgg84, Tryd.sizeOf84, ⟨_, Tryd.zeroValue84, rfl⟩, ⟨_, Tryd.typeInfo84, rfl⟩⟩
instance hu84 : HasUnd Tryd.prog 84 := ⟨_, Tryd.runUnderlying84⟩
instance ss84 : StTy Tryd.prog 84 [(0, 1, false), (1, 1, false), (2, 1, false)] := ⟨_, Tryd.runUnderlying84, rfl, fun i off sz ag h => match i, h with
  | 0, h => by simp only [List.getElem?_cons_zero, List.getElem?_cons_succ, Option.some.injEq, Prod.mk.injEq] at h; obtain ⟨rfl, rfl, rfl⟩ := h; exact ⟨_, rfl, rfl, Tryd.sizeOf30, Tryd.isAgg30⟩
  | 1, h => by simp only [List.getElem?_cons_zero, List.getElem?_cons_succ, Option.some.injEq, Prod.mk.injEq] at h; obtain ⟨rfl, rfl, rfl⟩ := h; exact ⟨_, rfl, rfl, Tryd.sizeOf30, Tryd.isAgg30⟩
  | 2, h => by simp only [List.getElem?_cons_zero, List.getElem?_cons_succ, Option.some.injEq, Prod.mk.injEq] at h; obtain ⟨rfl, rfl, rfl⟩ := h; exact ⟨_, rfl, rfl, Tryd.sizeOf33, Tryd.isAgg33⟩
  | (i + 3), h => by simp at h⟩
instance ty85 : Ty Tryd.prog 85 true 3 [.int .u64 0, .int .u64 0, .slice none 0 0] 40 := ⟨⟨Tryd.t85, _, by kernel_rfl, rfl, rfl, rfl, rfl⟩, Tryd.isAgg85, Tryd.sizeOf85, ⟨_, Tryd.zeroValue85, rfl⟩, ⟨_, Tryd.typeInfo85, rfl⟩⟩
instance hu85 : HasUnd Tryd.prog 85 := ⟨_, Tryd.runUnderlying85⟩
instance ss85 : StTy Tryd.prog 85 [(0, 1, false), (1, 1, false), (2, 1, false)] := ⟨_, Tryd.runUnderlying85, rfl, fun i off sz ag h => match i, h with
  | 0, h => by simp only [List.getElem?_cons_zero, List.getElem?_cons_succ, Option.some.injEq, Prod.mk.injEq] at h; obtain ⟨rfl, rfl, rfl⟩ := h; exact ⟨_, rfl, rfl, Tryd.sizeOf30, Tryd.isAgg30⟩
  | 1, h => by simp only [List.getElem?_cons_zero, List.getElem?_cons_succ, Option.some.injEq, Prod.mk.injEq] at h; obtain ⟨rfl, rfl, rfl⟩ := h; exact ⟨_, rfl, rfl, Tryd.sizeOf30, Tryd.isAgg30⟩
  | 2, h => by simp only [List.getElem?_cons_zero, List.getElem?_cons_succ, Option.some.injEq, Prod.mk.injEq] at h; obtain ⟨rfl, rfl, rfl⟩ := h; exact ⟨_, rfl, rfl, Tryd.sizeOf33, Tryd.isAgg33⟩
  | (i + 3), h => by simp at h⟩
instance ty86 : Ty Tryd.prog 86 true 2 [.string ⟨#[]⟩, .int .i64 0] 24 := ⟨⟨Tryd.t86, _, by kernel_rfl, rfl, rfl, rfl, rfl⟩, Tryd.isAgg86, Tryd.sizeOf86, ⟨_, Tryd.zeroValue86, rfl⟩, ⟨_, Tryd.typeInfo86, rfl⟩⟩
instance hu86 : HasUnd Tryd.prog 86 := ⟨_, Tryd.runUnderlying86⟩
instance ss86 : StTy Tryd.prog 86 [(0, 1, false), (1, 1, false)] := ⟨_, Tryd.runUnderlying86, rfl, fun i off sz ag h => match i, h with
  | 0, h => by simp only [List.getElem?_cons_zero, List.getElem?_cons_succ, Option.some.injEq, Prod.mk.injEq] at h; obtain ⟨rfl, rfl, rfl⟩ := h; exact ⟨_, rfl, rfl, Tryd.sizeOf9, Tryd.isAgg9⟩
  | 1, h => by simp only [List.getElem?_cons_zero, List.getElem?_cons_succ, Option.some.injEq, Prod.mk.injEq] at h; obtain ⟨rfl, rfl, rfl⟩ := h; exact ⟨_, rfl, rfl, Tryd.sizeOf3, Tryd.isAgg3⟩
  | (i + 2), h => by simp at h⟩
instance ty87 : Ty Tryd.prog 87 true 2 [.string ⟨#[]⟩, .int .i64 0] 24 := ⟨⟨Tryd.t87, _, by kernel_rfl, rfl, rfl, rfl, rfl⟩, Tryd.isAgg87, Tryd.sizeOf87, ⟨_, Tryd.zeroValue87, rfl⟩, ⟨_, Tryd.typeInfo87, rfl⟩⟩
instance hu87 : HasUnd Tryd.prog 87 := ⟨_, Tryd.runUnderlying87⟩
instance ss87 : StTy Tryd.prog 87 [(0, 1, false), (1, 1, false)] := ⟨_, Tryd.runUnderlying87, rfl, fun i off sz ag h => match i, h with
  | 0, h => by simp only [List.getElem?_cons_zero, List.getElem?_cons_succ, Option.some.injEq, Prod.mk.injEq] at h; obtain ⟨rfl, rfl, rfl⟩ := h; exact ⟨_, rfl, rfl, Tryd.sizeOf9, Tryd.isAgg9⟩
  | 1, h => by simp only [List.getElem?_cons_zero, List.getElem?_cons_succ, Option.some.injEq, Prod.mk.injEq] at h; obtain ⟨rfl, rfl, rfl⟩ := h; exact ⟨_, rfl, rfl, Tryd.sizeOf3, Tryd.isAgg3⟩
  | (i + 2), h => by simp at h⟩
instance ty88 : Ty Tryd.prog 88 false 1 [.nilFunc] 8 := ⟨⟨Tryd.t88, _, by kernel_rfl, rfl, rfl, rfl, rfl⟩, Tryd.isAgg88, Tryd.sizeOf88, ⟨_, Tryd.zeroValue88, rfl⟩, ⟨_, Tryd.typeInfo88, rfl⟩⟩
instance hu88 : HasUnd Tryd.prog 88 := ⟨_, Tryd.runUnderlying88⟩
instance ty89 : Ty Tryd.prog 89 false 1 [.nilFunc] 8 := ⟨⟨Tryd.t89, _, by kernel_rfl, rfl, rfl, rfl, rfl⟩, Tryd.isAgg89, Tryd.sizeOf89, ⟨_, Tryd.zeroValue89, rfl⟩, ⟨_, Tryd.typeInfo89, rfl⟩⟩
instance hu89 : HasUnd Tryd.prog 89 := ⟨_, Tryd.runUnderlying89⟩
instance ty90 : Ty Tryd.prog 90 false 1 [.nilFunc] 8 := ⟨⟨Tryd.t90, _, by kernel_rfl, rfl, rfl, rfl, rfl⟩, Tryd.isAgg90, Tryd.sizeOf90, ⟨_, Tryd.zeroValue90, rfl⟩, ⟨_, Tryd.typeInfo90, rfl⟩⟩
instance hu90 : HasUnd Tryd.prog 90 := ⟨_, Tryd.runUnderlying90⟩
instance ty91 : Ty Tryd.prog 91 false 1 [.nilFunc] 8 := ⟨⟨Tryd.t91, _, by kernel_rfl, rfl, rfl, rfl, rfl⟩, Tryd.isAgg91, Tryd.sizeOf91, ⟨_, Tryd.zeroValue91, rfl⟩, ⟨_, Tryd.typeInfo91, rfl⟩⟩
instance hu91 : HasUnd Tryd.prog 91 := ⟨_, Tryd.runUnderlying91⟩
instance ty92 : Ty Tryd.prog 92 false 1 [.nilFunc] 8 := ⟨⟨Tryd.t92, _, by kernel_rfl, rfl, rfl, rfl, rfl⟩, Tryd.isAgg92, Tryd.sizeOf92, ⟨_, Tryd.zeroValue92, rfl⟩, ⟨_, Tryd.typeInfo92, rfl⟩⟩
instance hu92 : HasUnd Tryd.prog 92 := ⟨_, Tryd.runUnderlying92⟩
instance ty93 : Ty Tryd.prog 93 false 1 [.nilFunc] 8 := ⟨⟨Tryd.t93, _, by kernel_rfl, rfl, rfl, rfl, rfl⟩, Tryd.isAgg93, Tryd.sizeOf93, ⟨_, Tryd.zeroValue93, rfl⟩, ⟨_, Tryd.typeInfo93, rfl⟩⟩
instance hu93 : HasUnd Tryd.prog 93 := ⟨_, Tryd.runUnderlying93⟩
instance ty94 : Ty Tryd.prog 94 false 1 [.nilFunc] 8 := ⟨⟨Tryd.t94, _, by kernel_rfl, rfl, rfl, rfl, rfl⟩, Tryd.isAgg94, Tryd.sizeOf94, ⟨_, Tryd.zeroValue94, rfl⟩, ⟨_, Tryd.typeInfo94, rfl⟩⟩
instance hu94 : HasUnd Tryd.prog 94 := ⟨_, Tryd.runUnderlying94⟩
instance ty95 : Ty Tryd.prog 95 false 1 [.nilFunc] 8 := ⟨⟨Tryd.t95, _, by kernel_rfl, rfl, rfl, rfl, rfl⟩, Tryd.isAgg95, Tryd.sizeOf95, ⟨_, Tryd.zeroValue95, rfl⟩, ⟨_, Tryd.typeInfo95, rfl⟩⟩
instance hu95 : HasUnd Tryd.prog 95 := ⟨_, Tryd.runUnderlying95⟩
instance ty96 : Ty Tryd.prog 96 false 1 [.nilFunc] 8 := ⟨⟨Tryd.t96, _, by kernel_rfl, rfl, rfl, rfl, rfl⟩, Tryd.isAgg96, Tryd.sizeOf96, ⟨_, Tryd.zeroValue96, rfl⟩, ⟨_, Tryd.typeInfo96, rfl⟩⟩
instance hu96 : HasUnd Tryd.prog 96 := ⟨_, Tryd.runUnderlying96⟩
instance ty97 : Ty Tryd.prog 97 false 1 [.nilFunc] 8 := ⟨⟨Tryd.t97, _, by kernel_rfl, rfl, rfl, rfl, rfl⟩, Tryd.isAgg97, Tryd.sizeOf97, ⟨_, Tryd.zeroValue97, rfl⟩, ⟨_, Tryd.typeInfo97, rfl⟩⟩
instance hu97 : HasUnd Tryd.prog 97 := ⟨_, Tryd.runUnderlying97⟩
instance ty98 : Ty Tryd.prog 98 false 1 [.nilFunc] 8 := ⟨⟨Tryd.t98, _, by kernel_rfl, rfl, rfl, rfl, rfl⟩, Tryd.isAgg98, Tryd.sizeOf98, ⟨_, Tryd.zeroValue98, rfl⟩, ⟨_, Tryd.typeInfo98, rfl⟩⟩
instance hu98 : HasUnd Tryd.prog 98 := ⟨_, Tryd.runUnderlying98⟩
instance ty99 : Ty Tryd.prog 99 false 1 [.pointer none] 8 := ⟨⟨Tryd.t99, _, by kernel_rfl, rfl, rfl, rfl, rfl⟩, Tryd.isAgg99, Tryd.sizeOf99, ⟨_, Tryd.zeroValue99, rfl⟩, ⟨_, Tryd.typeInfo99, rfl⟩⟩
instance hu99 : HasUnd Tryd.prog 99 := ⟨_, Tryd.runUnderlying99⟩
instance pt99 : PtrTy Tryd.prog 99 31 := ⟨Tryd.runUnderlying99, Tryd.underlying99⟩
instance ty100 : Ty Tryd.prog 100 false 1 [.nilFunc] 8 := ⟨⟨Tryd.t100, _, by kernel_rfl, rfl, rfl, rfl, rfl⟩, Tryd.isAgg100, Tryd.sizeOf100, ⟨_, Tryd.zeroValue100, rfl⟩, ⟨_, Tryd.typeInfo100, rfl⟩⟩
instance hu100 : HasUnd Tryd.prog 100 := ⟨_, Tryd.runUnderlying100⟩
instance ty101 : Ty Tryd.prog 101 false 1 [.nilFunc] 8 := ⟨⟨Tryd.t101, _, by kernel_rfl, rfl, rfl, rfl, rfl⟩, Tryd.isAgg101, Tryd.sizeOf101, ⟨_, Tryd.zeroValue101, rfl⟩, ⟨_, Tryd.typeInfo101, rfl⟩⟩
instance hu101 : HasUnd Tryd.prog 101 := ⟨_, Tryd.runUnderlying101⟩
instance ty102 : Ty Tryd.prog 102 false 1 [.nilFunc] 8 := ⟨⟨Tryd.t102, _, by kernel_rfl, rfl, rfl, rfl, rfl⟩, Tryd.isAgg102, Tryd.sizeOf102, ⟨_, Tryd.zeroValue102, rfl⟩, ⟨_, Tryd.typeInfo102, rfl⟩⟩
instance hu102 : HasUnd Tryd.prog 102 := ⟨_, Tryd.runUnderlying102⟩
instance ty103 : Ty Tryd.prog 103 false 1 [.nilFunc] 8 := ⟨⟨Tryd.t103, _, by kernel_rfl, rfl, rfl, rfl, rfl⟩, Tryd.isAgg103, Tryd.sizeOf103, ⟨_, Tryd.zeroValue103, rfl⟩, ⟨_, Tryd.typeInfo103, rfl⟩⟩
instance hu103 : HasUnd Tryd.prog 103 := ⟨_, Tryd.runUnderlying103⟩
instance ty104 : Ty Tryd.prog 104 false 1 [.nilFunc] 8 := ⟨⟨Tryd.t104, _, by kernel_rfl, rfl, rfl, rfl, rfl⟩, Tryd.isAgg104, Tryd.sizeOf104, ⟨_, Tryd.zeroValue104, rfl⟩, ⟨_, Tryd.typeInfo104, rfl⟩⟩
instance hu104 : HasUnd Tryd.prog 104 := ⟨_, Tryd.runUnderlying104⟩
instance ty105 : Ty Tryd.prog 105 false 1 [.nilFunc] 8 := ⟨⟨Tryd.t105, _, by kernel_rfl, rfl, rfl, rfl, rfl⟩, Tryd.isAgg105, Tryd.sizeOf105, ⟨_, Tryd.zeroValue105, rfl⟩, ⟨_, Tryd.typeInfo105, rfl⟩⟩
instance hu105 : HasUnd Tryd.prog 105 := ⟨_, Tryd.runUnderlying105⟩
instance ty106 : Ty Tryd.prog 106 false 1 [.nilFunc] 8 := ⟨⟨Tryd.t106, _, by kernel_rfl, rfl, rfl, rfl, rfl⟩, Tryd.isAgg106, Tryd.sizeOf106, ⟨_, Tryd.zeroValue106, rfl⟩, ⟨_, Tryd.typeInfo106, rfl⟩⟩
instance hu106 : HasUnd Tryd.prog 106 := ⟨_, Tryd.runUnderlying106⟩
instance ty107 : Ty Tryd.prog 107 true 46 [.string ⟨#[]⟩, .int .i64 0, .string ⟨#[]⟩, .int .i64 0, .string ⟨#[]⟩, .int .i64 0, .string ⟨#[]⟩, .int .i64 0, .string ⟨#[]⟩, .int .i64 0, .string ⟨#[]⟩, .int .i64 0, .string ⟨#[]⟩, .int .i64 0, .string ⟨#[]⟩, .int .i64 0, .string ⟨#[]⟩, .int .i64 0, .string ⟨#[]⟩, .int .i64 0, .string ⟨#[]⟩, .int .i64 0, .string ⟨#[]⟩, .int .i64 0, .string ⟨#[]⟩, .int .i64 0, .string ⟨#[]⟩, .int .i64 0, .string ⟨#[]⟩, .int .i64 0, .string ⟨#[]⟩, .int .i64 0, .string ⟨#[]⟩, .int .i64 0, .string ⟨#[]⟩, .int .i64 0, .string ⟨#[]⟩, .int .i64 0, .string ⟨#[]⟩, .int .i64 0, .string ⟨#[]⟩, .int .i64 0, .string ⟨#[]⟩, .int .i64 0, .string ⟨#[]⟩, .int .i64 0] 552 := ⟨⟨Tryd.t107, _, by kernel_rfl, rfl, rfl, rfl, rfl⟩, Tryd.isAgg107, Tryd.sizeOf107, ⟨_, Tryd.zeroValue107, rfl⟩, ⟨_, Tryd.typeInfo107, rfl⟩⟩
instance hu107 : HasUnd Tryd.prog 107 := ⟨_, Tryd.runUnderlying107⟩
instance at107 : ArrTy Tryd.prog 107 23 87 := ⟨Tryd.runUnderlying107, Tryd.underlying107⟩
instance ty108 : Ty Tryd.prog 108 true 15 [.bool false, .bool false, .bool false, .bool false, .bool false, .bool false, .bool false, .bool false, .bool false, .bool false, .bool false, .bool false, .bool false, .bool false, .bool false] 15 := ⟨⟨Tryd.t108, _, by kernel_rfl, rfl, rfl, rfl, rfl⟩, Tryd.isAgg108, Tryd.sizeOf108, ⟨_, Tryd.zeroValue108, rfl⟩, ⟨_, Tryd.typeInfo108, rfl⟩⟩
instance hu108 : HasUnd Tryd.prog 108 := ⟨_, Tryd.runUnderlying108⟩
instance at108 : ArrTy Tryd.prog 108 15 4 := ⟨Tryd.runUnderlying108, Tryd.underlying108⟩
instance ty109 : Ty Tryd.prog 109 false 1 [.nilFunc] 8 := ⟨⟨Tryd.t109, _, by kernel_rfl, rfl, rfl, rfl, rfl⟩, Tryd.isAgg109, Tryd.sizeOf109, ⟨_, Tryd.zeroValue109, rfl⟩, ⟨_, Tryd.typeInfo109, rfl⟩⟩
instance hu109 : HasUnd Tryd.prog 109 := ⟨_, Tryd.runUnderlying109⟩
instance ty110 : Ty Tryd.prog 110 false 1 [.nilFunc] 8 := ⟨⟨Tryd.t110, _, by kernel_rfl, rfl, rfl, rfl, rfl⟩, Tryd.isAgg110, Tryd.sizeOf110, ⟨_, Tryd.zeroValue110, rfl⟩, ⟨_, Tryd.typeInfo110, rfl⟩⟩
instance hu110 : HasUnd Tryd.prog 110 := ⟨_, Tryd.runUnderlying110⟩
instance ty111 : Ty Tryd.prog 111 false 1 [.nilFunc] 8 := ⟨⟨Tryd.t111, _, by kernel_rfl, rfl, rfl, rfl, rfl⟩, Tryd.isAgg111, Tryd.sizeOf111, ⟨_, Tryd.zeroValue111, rfl⟩, ⟨_, Tryd.typeInfo111, rfl⟩⟩
instance hu111 : HasUnd Tryd.prog 111 := ⟨_, Tryd.runUnderlying111⟩
instance ty112 : Ty Tryd.prog 112 false 1 [.nilFunc] 8 := ⟨⟨Tryd.t112, _, by kernel_rfl, rfl, rfl, rfl, rfl⟩, Tryd.isAgg112, Tryd.sizeOf112, ⟨_, Tryd.zeroValue112, rfl⟩, ⟨_, Tryd.typeInfo112, rfl⟩⟩
instance hu112 : HasUnd Tryd.prog 112 := ⟨_, Tryd.runUnderlying112⟩
instance ty113 : Ty Tryd.prog 113 false 1 [.nilFunc] 8 := ⟨⟨Tryd.t113, _, by kernel_rfl, rfl, rfl, rfl, rfl⟩, Tryd.isAgg113, Tryd.sizeOf113, ⟨_, Tryd.zeroValue113, rfl⟩, ⟨_, Tryd.typeInfo113, rfl⟩⟩
instance hu113 : HasUnd Tryd.prog 113 := ⟨_, Tryd.runUnderlying113⟩
instance ty114 : Ty Tryd.prog 114 false 1 [.nilFunc] 8 := ⟨⟨Tryd.t114, _, by kernel_rfl, rfl, rfl, rfl, rfl⟩, Tryd.isAgg114, Tryd.sizeOf114, ⟨_, Tryd.zeroValue114, rfl⟩, ⟨_, Tryd.typeInfo114, rfl⟩⟩
instance hu114 : HasUnd Tryd.prog 114 := ⟨_, Tryd.runUnderlying114⟩
instance hu115 : HasUnd Tryd.prog 115 := ⟨_, Tryd.runUnderlying115⟩
instance ty116 : Ty Tryd.prog 116 false 1 [.nilFunc] 8 := ⟨⟨Tryd.t116, _, by kernel_rfl, rfl, rfl, rfl, rfl⟩, Tryd.isAgg116, Tryd.sizeOf116, ⟨_, Tryd.zeroValue116, rfl⟩, ⟨_, Tryd.typeInfo116, rfl⟩⟩
instance hu116 : HasUnd Tryd.prog 116 := ⟨_, Tryd.runUnderlying116⟩
instance ty117 : Ty Tryd.prog 117 false 1 [.nilFunc] 8 := ⟨⟨Tryd.t117, _, by kernel_rfl, rfl, rfl, rfl, rfl⟩, Tryd.isAgg117, Tryd.sizeOf117, ⟨_, Tryd.zeroValue117, rfl⟩, ⟨_, Tryd.typeInfo117, rfl⟩⟩
instance hu117 : HasUnd Tryd.prog 117 := ⟨_, Tryd.runUnderlying117⟩
instance ty118 : Ty Tryd.prog 118 false 1 [.nilFunc] 8 := ⟨⟨Tryd.t118, _, by kernel_rfl, rfl, rfl, rfl, rfl⟩, Tryd.isAgg118, Tryd.sizeOf118, ⟨_, Tryd.zeroValue118, rfl⟩, ⟨_, Tryd.typeInfo118, rfl⟩⟩
instance hu118 : HasUnd Tryd.prog 118 := ⟨_, Tryd.runUnderlying118⟩
instance ty119 : Ty Tryd.prog 119 false 1 [.nilFunc] 8 := ⟨⟨Tryd.t119, _, by kernel_rfl, rfl, rfl, rfl, rfl⟩, Tryd.isAgg119, Tryd.sizeOf119, ⟨_, Tryd.zeroValue119, rfl⟩, ⟨_, Tryd.typeInfo119, rfl⟩⟩
instance hu119 : HasUnd Tryd.prog 119 := ⟨_, Tryd.runUnderlying119⟩
instance ty120 : Ty Tryd.prog 120 false 1 [.nilFunc] 8 := ⟨⟨Tryd.t120, _, by kernel_rfl, rfl, rfl, rfl, rfl⟩, Tryd.isAgg120, Tryd.sizeOf120, ⟨_, Tryd.zeroValue120, rfl⟩, ⟨_, Tryd.typeInfo120, rfl⟩⟩
instance hu120 : HasUnd Tryd.prog 120 := ⟨_, Tryd.runUnderlying120⟩
instance ty121 : Ty Tryd.prog 121 false 1 [.nilFunc] 8 := ⟨⟨Tryd.t121, _, by kernel_rfl, rfl, rfl, rfl, rfl⟩, Tryd.isAgg121, Tryd.sizeOf121, ⟨_, Tryd.zeroValue121, rfl⟩, ⟨_, Tryd.typeInfo121, rfl⟩⟩
instance hu121 : HasUnd Tryd.prog 121 := ⟨_, Tryd.runUnderlying121⟩
instance ty122 : Ty Tryd.prog 122 false 1 [.nilFunc] 8 := ⟨⟨Tryd.t122, _, by kernel_rfl, rfl, rfl, rfl, rfl⟩, Tryd.isAgg122, Tryd.sizeOf122, ⟨_, Tryd.zeroValue122, rfl⟩, ⟨_, Tryd.typeInfo122, rfl⟩⟩
instance hu122 : HasUnd Tryd.prog 122 := ⟨_, Tryd.runUnderlying122⟩
instance ty123 : Ty Tryd.prog 123 false 1 [.nilFunc] 8 := ⟨⟨Tryd.t123, _, by kernel_rfl, rfl, rfl, rfl, rfl⟩, Tryd.isAgg123, Tryd.sizeOf123, ⟨_, Tryd.zeroValue123, rfl⟩, ⟨_, Tryd.typeInfo123, rfl⟩⟩
instance hu123 : HasUnd Tryd.prog 123 := ⟨_, Tryd.runUnderlying123⟩
instance ty124 : Ty Tryd.prog 124 false 1 [.nilFunc] 8 := ⟨⟨Tryd.t124, _, by kernel_rfl, rfl, rfl, rfl, rfl⟩, Tryd.isAgg124, Tryd.sizeOf124, ⟨_, Tryd.zeroValue124, rfl⟩, ⟨_, Tryd.typeInfo124, rfl⟩⟩
instance hu124 : HasUnd Tryd.prog 124 := ⟨_, Tryd.runUnderlying124⟩
instance ty125 : Ty Tryd.prog 125 false 1 [.nilFunc] 8 := ⟨⟨Tryd.t125, _, by kernel_rfl, rfl, rfl, rfl, rfl⟩, Tryd.isAgg125, Tryd.sizeOf125, ⟨_, Tryd.zeroValue125, rfl⟩, ⟨_, Tryd.typeInfo125, rfl⟩⟩
instance hu125 : HasUnd Tryd.prog 125 := ⟨_, Tryd.runUnderlying125⟩
instance ty126 : Ty Tryd.prog 126 false 1 [.nilFunc] 8 := ⟨⟨Tryd.t126, _, by kernel_rfl, rfl, rfl, rfl, rfl⟩, Tryd.isAgg126, Tryd.sizeOf126, ⟨_, Tryd.zeroValue126, rfl⟩, ⟨_, Tryd.typeInfo126, rfl⟩⟩
instance hu126 : HasUnd Tryd.prog 126 := ⟨_, Tryd.runUnderlying126⟩
instance ty127 : Ty Tryd.prog 127 false 1 [.nilFunc] 8 := ⟨⟨Tryd.t127, _, by kernel_rfl, rfl, rfl, rfl, rfl⟩, Tryd.isAgg127, Tryd.sizeOf127, ⟨_, Tryd.zeroValue127, rfl⟩, ⟨_, Tryd.typeInfo127, rfl⟩⟩
instance hu127 : HasUnd Tryd.prog 127 := ⟨_, Tryd.runUnderlying127⟩
instance ty128 : Ty Tryd.prog 128 false 1 [.nilFunc] 8 := ⟨⟨Tryd.t128, _, by kernel_rfl, rfl, rfl, rfl, rfl⟩, Tryd.isAgg128, Tryd.sizeOf128, ⟨_, Tryd.zeroValue128, rfl⟩, ⟨_, Tryd.typeInfo128, rfl⟩⟩
instance hu128 : HasUnd Tryd.prog 128 := ⟨_, Tryd.runUnderlying128⟩
instance ty129 : Ty Tryd.prog 129 false 1 [.nilFunc] 8 := ⟨⟨Tryd.t129, _, by kernel_rfl, rfl, rfl, rfl, rfl⟩, Tryd.isAgg129, Tryd.sizeOf129, ⟨_, Tryd.zeroValue129, rfl⟩, ⟨_, Tryd.typeInfo129, rfl⟩⟩
instance hu129 : HasUnd Tryd.prog 129 := ⟨_, Tryd.runUnderlying129⟩
instance ty130 : Ty Tryd.prog 130 false 1 [.nilFunc] 8 := ⟨⟨Tryd.t130, _, by kernel_rfl, rfl, rfl, rfl, rfl⟩, Tryd.isAgg130, Tryd.sizeOf130, ⟨_, Tryd.zeroValue130, rfl⟩, ⟨_, Tryd.typeInfo130, rfl⟩⟩
instance hu130 : HasUnd Tryd.prog 130 := ⟨_, Tryd.runUnderlying130⟩
instance ty131 : Ty Tryd.prog 131 false 1 [.nilFunc] 8 := ⟨⟨Tryd.t131, _, by kernel_rfl, rfl, rfl, rfl, rfl⟩, Tryd.isAgg131, Tryd.sizeOf131, ⟨_, Tryd.zeroValue131, rfl⟩, ⟨_, Tryd.typeInfo131, rfl⟩⟩
instance hu131 : HasUnd Tryd.prog 131 := ⟨_, Tryd.runUnderlying131⟩
instance ty132 : Ty Tryd.prog 132 false 1 [.nilFunc] 8 := ⟨⟨Tryd.t132, _, by kernel_rfl, rfl, rfl, rfl, rfl⟩, Tryd.isAgg132, Tryd.sizeOf132, ⟨_, Tryd.zeroValue132, rfl⟩, ⟨_, Tryd.typeInfo132, rfl⟩⟩
instance hu132 : HasUnd Tryd.prog 132 := ⟨_, Tryd.runUnderlying132⟩
instance ty133 : Ty Tryd.prog 133 false 1 [.nilFunc] 8 := ⟨⟨Tryd.t133, _, by kernel_rfl, rfl, rfl, rfl, rfl⟩, Tryd.isAgg133, Tryd.sizeOf133, ⟨_, Tryd.zeroValue133, rfl⟩, ⟨_, Tryd.typeInfo133, rfl⟩⟩
instance hu133 : HasUnd Tryd.prog 133 := ⟨_, Tryd.runUnderlying133⟩
instance ty134 : Ty Tryd.prog 134 false 1 [.int .i64 0] 8 := ⟨⟨Tryd.t134, _, by kernel_rfl, rfl, rfl, rfl, rfl⟩, Tryd.isAgg134, Tryd.sizeOf134, ⟨_, Tryd.zeroValue134, rfl⟩, ⟨_, Tryd.typeInfo134, rfl⟩⟩
instance hu134 : HasUnd Tryd.prog 134 := ⟨_, Tryd.runUnderlying134⟩
instance it134 : IntTy Tryd.prog 134 .i64 := ⟨Tryd.runUnderlying134, Tryd.underlying134⟩
instance hu135 : HasUnd Tryd.prog 135 := ⟨_, Tryd.runUnderlying135⟩
instance ty136 : Ty Tryd.prog 136 false 1 [.nilFunc] 8 := ⟨⟨Tryd.t136, _, by kernel_rfl, rfl, rfl, rfl, rfl⟩, Tryd.isAgg136, Tryd.sizeOf136, ⟨_, Tryd.zeroValue136, rfl⟩, ⟨_, Tryd.typeInfo136, rfl⟩⟩
instance hu136 : HasUnd Tryd.prog 136 := ⟨_, Tryd.runUnderlying136⟩
instance ty137 : Ty Tryd.prog 137 false 1 [.nilFunc] 8 := ⟨⟨Tryd.t137, _, by kernel_rfl, rfl, rfl, rfl, rfl⟩, Tryd.isAgg137, Tryd.sizeOf137, ⟨_, Tryd.zeroValue137, rfl⟩, ⟨_, Tryd.typeInfo137, rfl⟩⟩
instance hu137 : HasUnd Tryd.prog 137 := ⟨_, Tryd.runUnderlying137⟩
instance ty138 : Ty Tryd.prog 138 false 1 [.nilFunc] 8 := ⟨⟨Tryd.t138, _, by kernel_rfl, rfl, rfl, rfl, rfl⟩, Tryd.isAgg138, Tryd.sizeOf138, ⟨_, Tryd.zeroValue138, rfl⟩, ⟨_, Tryd.typeInfo138, rfl⟩⟩
instance hu138 : HasUnd Tryd.prog 138 := ⟨_, Tryd.runUnderlying138⟩
instance ty139 : Ty Tryd.prog 139 false 1 [.nilFunc] 8 := ⟨⟨Tryd.t139, _, by kernel_rfl, rfl, rfl, rfl, rfl⟩, Tryd.isAgg139, Tryd.sizeOf139, ⟨_, Tryd.zeroValue139, rfl⟩, ⟨_, Tryd.typeInfo139, rfl⟩⟩
instance hu139 : HasUnd Tryd.prog 139 := ⟨_, Tryd.runUnderlying139⟩
instance ty140 : Ty Tryd.prog 140 false 1 [.nilFunc] 8 := ⟨⟨Tryd.t140, _, by kernel_rfl, rfl, rfl, rfl, rfl⟩, Tryd.isAgg140, Tryd.sizeOf140, ⟨_, Tryd.zeroValue140, rfl⟩, ⟨_, Tryd.typeInfo140, rfl⟩⟩
instance hu140 : HasUnd Tryd.prog 140 := ⟨_, Tryd.runUnderlying140⟩
instance ty141 : Ty Tryd.prog 141 false 1 [.int .u32 0] 4 := ⟨⟨Tryd.t141, _, by kernel_rfl, rfl, rfl, rfl, rfl⟩, Tryd.isAgg141, Tryd.sizeOf141, ⟨_, Tryd.zeroValue141, rfl⟩, ⟨_, Tryd.typeInfo141, rfl⟩⟩
instance hu141 : HasUnd Tryd.prog 141 := ⟨_, Tryd.runUnderlying141⟩
instance it141 : IntTy Tryd.prog 141 .u32 := ⟨Tryd.runUnderlying141, Tryd.underlying141⟩
instance ty142 : Ty Tryd.prog 142 false 1 [.nilFunc] 8 := ⟨⟨Tryd.t142, _, by kernel_rfl, rfl, rfl, rfl, rfl⟩, Tryd.isAgg142, Tryd.sizeOf142, ⟨_, Tryd.zeroValue142, rfl⟩, ⟨_, Tryd.typeInfo142, rfl⟩⟩
instance hu142 : HasUnd Tryd.prog 142 := ⟨_, Tryd.runUnderlying142⟩
instance ty143 : Ty Tryd.prog 143 false 1 [.nilFunc] 8 := ⟨⟨Tryd.t143, _, by kernel_rfl, rfl, rfl, rfl, rfl⟩, Tryd.isAgg143, Tryd.sizeOf143, ⟨_, Tryd.zeroValue143, rfl⟩, ⟨_, Tryd.typeInfo143, rfl⟩⟩
instance hu143 : HasUnd Tryd.prog 143 := ⟨_, Tryd.runUnderlying143⟩
instance ty144 : Ty Tryd.prog 144 false 1 [.nilFunc] 8 := ⟨⟨Tryd.t144, _, by kernel_rfl, rfl, rfl, rfl, rfl⟩, Tryd.isAgg144, Tryd.sizeOf144, ⟨_, Tryd.zeroValue144, rfl⟩, ⟨_, Tryd.typeInfo144, rfl⟩⟩
instance hu144 : HasUnd Tryd.prog 144 := ⟨_, Tryd.runUnderlying144⟩
instance ty145 : Ty Tryd.prog 145 false 1 [.nilFunc] 8 := ⟨⟨Tryd.t145, _, by kernel_rfl, rfl, rfl, rfl, rfl⟩, Tryd.isAgg145, Tryd.sizeOf145, ⟨_, Tryd.zeroValue145, rfl⟩, ⟨_, Tryd.typeInfo145, rfl⟩⟩
instance hu145 : HasUnd Tryd.prog 145 := ⟨_, Tryd.runUnderlying145⟩
instance ty146 : Ty Tryd.prog 146 false 1 [.nilFunc] 8 := ⟨⟨Tryd.t146, _, by kernel_rfl, rfl, rfl, rfl, rfl⟩, Tryd.isAgg146, Tryd.sizeOf146, ⟨_, Tryd.zeroValue146, rfl⟩, ⟨_, Tryd.typeInfo146, rfl⟩⟩
instance hu146 : HasUnd Tryd.prog 146 := ⟨_, Tryd.runUnderlying146⟩
instance ty147 : Ty Tryd.prog 147 false 1 [.nilFunc] 8 := ⟨⟨Tryd.t147, _, by kernel_rfl, rfl, rfl, rfl, rfl⟩, Tryd.isAgg147, Tryd.sizeOf147, ⟨_, Tryd.zeroValue147, rfl⟩, ⟨_, Tryd.typeInfo147, rfl⟩⟩
instance hu147 : HasUnd Tryd.prog 147 := ⟨_, Tryd.runUnderlying147⟩
instance ty148 : Ty Tryd.prog 148 false 1 [.int .u64 0] 8 := ⟨⟨Tryd.t148, _, by kernel_rfl, rfl, rfl, rfl, rfl⟩, Tryd.isAgg148, Tryd.sizeOf148, ⟨_, Tryd.zeroValue148, rfl⟩, ⟨_, Tryd.typeInfo148, rfl⟩⟩
instance hu148 : HasUnd Tryd.prog 148 := ⟨_, Tryd.runUnderlying148⟩
instance it148 : IntTy Tryd.prog 148 .u64 := ⟨Tryd.runUnderlying148, Tryd.underlying148⟩
instance ty149 : Ty Tryd.prog 149 false 1 [.nilFunc] 8 := ⟨⟨Tryd.t149, _, by kernel_rfl, rfl, rfl, rfl, rfl⟩, Tryd.isAgg149, Tryd.sizeOf149, ⟨_, Tryd.zeroValue149, rfl⟩, ⟨_, Tryd.typeInfo149, rfl⟩⟩
instance hu149 : HasUnd Tryd.prog 149 := ⟨_, Tryd.runUnderlying149⟩
instance ty150 : Ty Tryd.prog 150 false 1 [.nilFunc] 8 := ⟨⟨Tryd.t150, _, by kernel_rfl, rfl, rfl, rfl, rfl⟩, Tryd.isAgg150, Tryd.sizeOf150, ⟨_, Tryd.zeroValue150, rfl⟩, ⟨_, Tryd.typeInfo150, rfl⟩⟩
instance hu150 : HasUnd Tryd.prog 150 := ⟨_, Tryd.runUnderlying150⟩
instance ty151 : Ty Tryd.prog 151 false 1 [.pointer none] 8 := ⟨⟨Tryd.t151, _, by kernel_rfl, rfl, rfl, rfl, rfl⟩, Tryd.isAgg151, Tryd.sizeOf151, ⟨_, Tryd.zeroValue151, rfl⟩, ⟨_, Tryd.typeInfo151, rfl⟩⟩
instance hu151 : HasUnd Tryd.prog 151 := ⟨_, Tryd.runUnderlying151⟩
instance pt151 : PtrTy Tryd.prog 151 3 := ⟨Tryd.runUnderlying151, Tryd.underlying151⟩
instance ty152 : Ty Tryd.prog 152 false 1 [.nilFunc] 8 := ⟨⟨Tryd.t152, _, by kernel_rfl, rfl, rfl, rfl, rfl⟩, Tryd.isAgg152, Tryd.sizeOf152, ⟨_, Tryd.zeroValue152, rfl⟩, ⟨_, Tryd.typeInfo152, rfl⟩⟩
instance hu152 : HasUnd Tryd.prog 152 := ⟨_, Tryd.runUnderlying152⟩
instance ty153 : Ty Tryd.prog 153 false 1 [.nilFunc] 8 := ⟨⟨Tryd.t153, _, by kernel_rfl, rfl, rfl, rfl, rfl⟩, Tryd.isAgg153, Tryd.sizeOf153, ⟨_, Tryd.zeroValue153, rfl⟩, ⟨_, Tryd.typeInfo153, rfl⟩⟩
instance hu153 : HasUnd Tryd.prog 153 := ⟨_, Tryd.runUnderlying153⟩
instance ty154 : Ty Tryd.prog 154 false 1 [.nilFunc] 8 := ⟨⟨Tryd.t154, _, by kernel_rfl, rfl, rfl, rfl, rfl⟩, Tryd.isAgg154, Tryd.sizeOf154, ⟨_, Tryd.zeroValue154, rfl⟩, ⟨_, Tryd.typeInfo154, rfl⟩⟩
instance hu154 : HasUnd Tryd.prog 154 := ⟨_, Tryd.runUnderlying154⟩
instance ty155 : Ty Tryd.prog 155 false 1 [.pointer none] 8 := ⟨⟨Tryd.t155, _, by kernel_rfl, rfl, rfl, rfl, rfl⟩, Tryd.isAgg155, Tryd.sizeOf155, ⟨_, Tryd.zeroValue155, rfl⟩, ⟨_, Tryd.typeInfo155, rfl⟩⟩
instance hu155 : HasUnd Tryd.prog 155 := ⟨_, Tryd.runUnderlying155⟩
instance pt155 : PtrTy Tryd.prog 155 148 := ⟨Tryd.runUnderlying155, Tryd.underlying155⟩
instance hu156 : HasUnd Tryd.prog 156 := ⟨_, Tryd.runUnderlying156⟩
instance ty157 : Ty Tryd.prog 157 false 1 [.nilFunc] 8 := ⟨⟨Tryd.t157, _, by kernel_rfl, rfl, rfl, rfl, rfl⟩, Tryd.isAgg157, Tryd.sizeOf157, ⟨_, Tryd.zeroValue157, rfl⟩, ⟨_, Tryd.typeInfo157, rfl⟩⟩
instance hu157 : HasUnd Tryd.prog 157 := ⟨_, Tryd.runUnderlying157⟩
instance ty158 : Ty Tryd.prog 158 false 1 [.nilFunc] 8 := ⟨⟨Tryd.t158, _, by kernel_rfl, rfl, rfl, rfl, rfl⟩, Tryd.isAgg158, Tryd.sizeOf158, ⟨_, Tryd.zeroValue158, rfl⟩, ⟨_, Tryd.typeInfo158, rfl⟩⟩
instance hu158 : HasUnd Tryd.prog 158 := ⟨_, Tryd.runUnderlying158⟩
instance ty159 : Ty Tryd.prog 159 false 1 [.nilFunc] 8 := ⟨⟨Tryd.t159, _, by kernel_rfl, rfl, rfl, rfl, rfl⟩, Tryd.isAgg159, Tryd.sizeOf159, ⟨_, Tryd.zeroValue159, rfl⟩, ⟨_, Tryd.typeInfo159, rfl⟩⟩
instance hu159 : HasUnd Tryd.prog 159 := ⟨_, Tryd.runUnderlying159⟩
instance ty160 : Ty Tryd.prog 160 true 4 [.pointer none, .pointer none, .pointer none, .string ⟨#[]⟩] 40 := ⟨⟨Tryd.t160, _, by kernel_rfl, rfl, rfl, rfl, rfl⟩, Tryd.isAgg160, Tryd.sizeOf160, ⟨_, Tryd.zeroValue160, rfl⟩, ⟨_, Tryd.typeInfo160, rfl⟩⟩
instance hu160 : HasUnd Tryd.prog 160 := ⟨_, Tryd.runUnderlying160⟩
instance ss160 : StTy Tryd.prog 160 [(0, 1, false), (1, 1, false), (2, 1, false), (3, 1, false)] := ⟨_, Tryd.runUnderlying160, rfl, fun i off sz ag h => match i, h with
  | 0, h => by simp only [List.getElem?_cons_zero, List.getElem?_cons_succ, Option.some.injEq, Prod.mk.injEq] at h; obtain ⟨rfl, rfl, rfl⟩ := h; exact ⟨_, rfl, rfl, Tryd.sizeOf17, Tryd.isAgg17⟩
  | 1, h => by simp only [List.getElem?_cons_zero, List.getElem?_cons_succ, Option.some.injEq, Prod.mk.injEq] at h; obtain ⟨rfl, rfl, rfl⟩ := h; exact ⟨_, rfl, rfl, Tryd.sizeOf17, Tryd.isAgg17⟩
  | 2, h => by simp only [List.getElem?_cons_zero, List.getElem?_cons_succ, Option.some.injEq, Prod.mk.injEq] at h; obtain ⟨rfl, rfl, rfl⟩ := h; exact ⟨_, rfl, rfl, Tryd.sizeOf17, Tryd.isAgg17⟩
  | 3, h => by simp only [List.getElem?_cons_zero, List.getElem?_cons_succ, Option.some.injEq, Prod.mk.injEq] at h; obtain ⟨rfl, rfl, rfl⟩ := h; exact ⟨_, rfl, rfl, Tryd.sizeOf9, Tryd.isAgg9⟩
  | (i + 4), h => by simp at h⟩
instance ty161 : Ty Tryd.prog 161 true 4 [.pointer none, .pointer none, .pointer none, .string ⟨#[]⟩] 40 := ⟨⟨Tryd.t161, _, by kernel_rfl, rfl, rfl, rfl, rfl⟩, Tryd.isAgg161, Tryd.sizeOf161, ⟨_, Tryd.zeroValue161, rfl⟩, ⟨_, Tryd.typeInfo161, rfl⟩⟩
instance hu161 : HasUnd Tryd.prog 161 := ⟨_, Tryd.runUnderlying161⟩
instance ss161 : StTy Tryd.prog 161 [(0, 1, false), (1, 1, false), (2, 1, false), (3, 1, false)] := ⟨_, Tryd.runUnderlying161, rfl, fun i off sz ag h => match i, h with
  | 0, h => by simp only [List.getElem?_cons_zero, List.getElem?_cons_succ, Option.some.injEq, Prod.mk.injEq] at h; obtain ⟨rfl, rfl, rfl⟩ := h; exact ⟨_, rfl, rfl, Tryd.sizeOf17, Tryd.isAgg17⟩
  | 1, h => by simp only [List.getElem?_cons_zero, List.getElem?_cons_succ, Option.some.injEq, Prod.mk.injEq] at h; obtain ⟨rfl, rfl, rfl⟩ := h; exact ⟨_, rfl, rfl, Tryd.sizeOf17, Tryd.isAgg17⟩
  | 2, h => by simp only [List.getElem?_cons_zero, List.getElem?_cons_succ, Option.some.injEq, Prod.mk.injEq] at h; obtain ⟨rfl, rfl, rfl⟩ := h; exact ⟨_, rfl, rfl, Tryd.sizeOf17, Tryd.isAgg17⟩
  | 3, h => by simp only [List.getElem?_cons_zero, List.getElem?_cons_succ, Option.some.injEq, Prod.mk.injEq] at h; obtain ⟨rfl, rfl, rfl⟩ := h; exact ⟨_, rfl, rfl, Tryd.sizeOf9, Tryd.isAgg9⟩
  | (i + 4), h => by simp at h⟩
instance ty162 : Ty Tryd.prog 162 true 0 [] 0 := ⟨⟨Tryd.t162, _, by kernel_rfl, rfl, rfl, rfl, rfl⟩, Tryd.isAgg162, Tryd.sizeOf162, ⟨_, Tryd.zeroValue162, rfl⟩, ⟨_, Tryd.typeInfo162, rfl⟩⟩
instance hu162 : HasUnd Tryd.prog 162 := ⟨_, Tryd.runUnderlying162⟩
instance at162 : ArrTy Tryd.prog 162 0 16 := ⟨Tryd.runUnderlying162, Tryd.underlying162⟩
instance ty163 : Ty Tryd.prog 163 true 0 [] 0 := ⟨⟨Tryd.t163, _, by kernel_rfl, rfl, rfl, rfl, rfl⟩, Tryd.isAgg163, Tryd.sizeOf163, ⟨_, Tryd.zeroValue163, rfl⟩, ⟨_, Tryd.typeInfo163, rfl⟩⟩
instance hu163 : HasUnd Tryd.prog 163 := ⟨_, Tryd.runUnderlying163⟩
instance ss163 : StTy Tryd.prog 163 [(0, 0, true)] := ⟨_, Tryd.runUnderlying163, rfl, fun i off sz ag h => match i, h with
  | 0, h => by simp only [List.getElem?_cons_zero, List.getElem?_cons_succ, Option.some.injEq, Prod.mk.injEq] at h; obtain ⟨rfl, rfl, rfl⟩ := h; exact ⟨_, rfl, rfl, Tryd.sizeOf162, Tryd.isAgg162⟩
  | (i + 1), h => by simp at h⟩
instance ty164 : Ty Tryd.prog 164 true 0 [] 0 := ⟨⟨Tryd.t164, _, by kernel_rfl, rfl, rfl, rfl, rfl⟩, Tryd.isAgg164, Tryd.sizeOf164, ⟨_, Tryd.zeroValue164, rfl⟩, ⟨_, Tryd.typeInfo164, rfl⟩⟩
instance hu164 : HasUnd Tryd.prog 164 := ⟨_, Tryd.runUnderlying164⟩
instance ss164 : StTy Tryd.prog 164 [(0, 0, true)] := ⟨_, Tryd.runUnderlying164, rfl, fun i off sz ag h => match i, h with
  | 0, h => by simp only [List.getElem?_cons_zero, List.getElem?_cons_succ, Option.some.injEq, Prod.mk.injEq] at h; obtain ⟨rfl, rfl, rfl⟩ := h; exact ⟨_, rfl, rfl, Tryd.sizeOf162, Tryd.isAgg162⟩
  | (i + 1), h => by simp at h⟩
instance ty165 : Ty Tryd.prog 165 false 1 [.nilFunc] 8 := ⟨⟨Tryd.t165, _, by kernel_rfl, rfl, rfl, rfl, rfl⟩, Tryd.isAgg165, Tryd.sizeOf165, ⟨_, Tryd.zeroValue165, rfl⟩, ⟨_, Tryd.typeInfo165, rfl⟩⟩
instance hu165 : HasUnd Tryd.prog 165 := ⟨_, Tryd.runUnderlying165⟩
instance ty166 : Ty Tryd.prog 166 false 1 [.int .u8 0] 1 := ⟨⟨Tryd.t166, _, by kernel_rfl, rfl, rfl, rfl, rfl⟩, Tryd.isAgg166, Tryd.sizeOf166, ⟨_, Tryd.zeroValue166, rfl⟩, ⟨_, Tryd.typeInfo166, rfl⟩⟩
instance hu166 : HasUnd Tryd.prog 166 := ⟨_, Tryd.runUnderlying166⟩
instance it166 : IntTy Tryd.prog 166 .u8 := ⟨Tryd.runUnderlying166, Tryd.underlying166⟩
instance ty167 : Ty Tryd.prog 167 false 1 [.int .u8 0] 1 := ⟨⟨Tryd.t167, _, by kernel_rfl, rfl, rfl, rfl, rfl⟩, Tryd.isAgg167, Tryd.sizeOf167, ⟨_, Tryd.zeroValue167, rfl⟩, ⟨_, Tryd.typeInfo167, rfl⟩⟩
instance hu167 : HasUnd Tryd.prog 167 := ⟨_, Tryd.runUnderlying167⟩
instance it167 : IntTy Tryd.prog 167 .u8 := ⟨Tryd.runUnderlying167, Tryd.underlying167⟩
instance ty168 : Ty Tryd.prog 168 false 1 [.nilFunc] 8 := ⟨⟨Tryd.t168, _, by kernel_rfl, rfl, rfl, rfl, rfl⟩, Tryd.isAgg168, Tryd.sizeOf168, ⟨_, Tryd.zeroValue168, rfl⟩, ⟨_, Tryd.typeInfo168, rfl⟩⟩
instance hu168 : HasUnd Tryd.prog 168 := ⟨_, Tryd.runUnderlying168⟩
instance ty169 : Ty Tryd.prog 169 false 1 [.pointer none] 8 := ⟨⟨Tryd.t169, _, by kernel_rfl, rfl, rfl, rfl, rfl⟩, Tryd.isAgg169, Tryd.sizeOf169, ⟨_, Tryd.zeroValue169, rfl⟩, ⟨_, Tryd.typeInfo169, rfl⟩⟩
instance hu169 : HasUnd Tryd.prog 169 := ⟨_, Tryd.runUnderlying169⟩
instance pt169 : PtrTy Tryd.prog 169 5 := ⟨Tryd.runUnderlying169, Tryd.underlying169⟩
instance ty170 : Ty Tryd.prog 170 false 1 [.int .i32 0] 4 := ⟨⟨Tryd.t170, _, by kernel_rfl, rfl, rfl, rfl, rfl⟩, Tryd.isAgg170, Tryd.sizeOf170, ⟨_, Tryd.zeroValue170, rfl⟩, ⟨_, Tryd.typeInfo170, rfl⟩⟩
instance hu170 : HasUnd Tryd.prog 170 := ⟨_, Tryd.runUnderlying170⟩
instance it170 : IntTy Tryd.prog 170 .i32 := ⟨Tryd.runUnderlying170, Tryd.underlying170⟩
instance ty171 : Ty Tryd.prog 171 false 1 [.int .i32 0] 4 := ⟨⟨Tryd.t171, _, by kernel_rfl, rfl, rfl, rfl, rfl⟩, Tryd.isAgg171, Tryd.sizeOf171, ⟨_, Tryd.zeroValue171, rfl⟩, ⟨_, Tryd.typeInfo171, rfl⟩⟩
instance hu171 : HasUnd Tryd.prog 171 := ⟨_, Tryd.runUnderlying171⟩
instance it171 : IntTy Tryd.prog 171 .i32 := ⟨Tryd.runUnderlying171, Tryd.underlying171⟩
instance ty172 : Ty Tryd.prog 172 true 11 [.int .u64 0, .int .u64 0, .int .u32 0, .int .u8 0, .int .u8 0, .int .u8 0, .int .u8 0, .nilFunc, .pointer none, .int .i32 0, .int .i32 0] 48 := ⟨⟨Tryd.t172, _, by kernel_rfl, rfl, rfl, rfl, rfl⟩, Tryd.isAgg172, Tryd.sizeOf172, ⟨_, Tryd.zeroValue172, rfl⟩, ⟨_, Tryd.typeInfo172, rfl⟩⟩
instance hu172 : HasUnd Tryd.prog 172 := ⟨_, Tryd.runUnderlying172⟩
instance ss172 : StTy Tryd.prog 172 [(0, 1, false), (1, 1, false), (2, 1, false), (3, 1, false), (4, 1, false), (5, 1, false), (6, 1, false), (7, 1, false), (8, 1, false), (9, 1, false), (10, 1, false)] := ⟨_, Tryd.runUnderlying172, rfl, fun i off sz ag h => match i, h with
  | 0, h => by simp only [List.getElem?_cons_zero, List.getElem?_cons_succ, Option.some.injEq, Prod.mk.injEq] at h; obtain ⟨rfl, rfl, rfl⟩ := h; exact ⟨_, rfl, rfl, Tryd.sizeOf12, Tryd.isAgg12⟩
  | 1, h => by simp only [List.getElem?_cons_zero, List.getElem?_cons_succ, Option.some.injEq, Prod.mk.injEq] at h; obtain ⟨rfl, rfl, rfl⟩ := h; exact ⟨_, rfl, rfl, Tryd.sizeOf12, Tryd.isAgg12⟩
  | 2, h => by simp only [List.getElem?_cons_zero, List.getElem?_cons_succ, Option.some.injEq, Prod.mk.injEq] at h; obtain ⟨rfl, rfl, rfl⟩ := h; exact ⟨_, rfl, rfl, Tryd.sizeOf141, Tryd.isAgg141⟩
  | 3, h => by simp only [List.getElem?_cons_zero, List.getElem?_cons_succ, Option.some.injEq, Prod.mk.injEq] at h; obtain ⟨rfl, rfl, rfl⟩ := h; exact ⟨_, rfl, rfl, Tryd.sizeOf166, Tryd.isAgg166⟩
  | 4, h => by simp only [List.getElem?_cons_zero, List.getElem?_cons_succ, Option.some.injEq, Prod.mk.injEq] at h; obtain ⟨rfl, rfl, rfl⟩ := h; exact ⟨_, rfl, rfl, Tryd.sizeOf5, Tryd.isAgg5⟩
  | 5, h => by simp only [List.getElem?_cons_zero, List.getElem?_cons_succ, Option.some.injEq, Prod.mk.injEq] at h; obtain ⟨rfl, rfl, rfl⟩ := h; exact ⟨_, rfl, rfl, Tryd.sizeOf5, Tryd.isAgg5⟩
  | 6, h => by simp only [List.getElem?_cons_zero, List.getElem?_cons_succ, Option.some.injEq, Prod.mk.injEq] at h; obtain ⟨rfl, rfl, rfl⟩ := h; exact ⟨_, rfl, rfl, Tryd.sizeOf167, Tryd.isAgg167⟩
  | 7, h => by simp only [List.getElem?_cons_zero, List.getElem?_cons_succ, Option.some.injEq, Prod.mk.injEq] at h; obtain ⟨rfl, rfl, rfl⟩ := h; exact ⟨_, rfl, rfl, Tryd.sizeOf168, Tryd.isAgg168⟩
  | 8, h => by simp only [List.getElem?_cons_zero, List.getElem?_cons_succ, Option.some.injEq, Prod.mk.injEq] at h; obtain ⟨rfl, rfl, rfl⟩ := h; exact ⟨_, rfl, rfl, Tryd.sizeOf169, Tryd.isAgg169⟩
  | 9, h => by simp only [List.getElem?_cons_zero, List.getElem?_cons_succ, Option.some.injEq, Prod.mk.injEq] at h; obtain ⟨rfl, rfl, rfl⟩ := h; exact ⟨_, rfl, rfl, Tryd.sizeOf170, Tryd.isAgg170⟩
  | 10, h => by simp only [List.getElem?_cons_zero, List.getElem?_cons_succ, Option.some.injEq, Prod.mk.injEq] at h; obtain ⟨rfl, rfl, rfl⟩ := h; exact ⟨_, rfl, rfl, Tryd.sizeOf171, Tryd.isAgg171⟩
  | (i + 11), h => by simp at h⟩
instance ty173 : Ty Tryd.prog 173 true 11 [.int .u64 0, .int .u64 0, .int .u32 0, .int .u8 0, .int .u8 0, .int .u8 0, .int .u8 0, .nilFunc, .pointer none, .int .i32 0, .int .i32 0] 48 := ⟨⟨Tryd.t173, _, by kernel_rfl, rfl, rfl, rfl, rfl⟩, Tryd.isAgg173, Tryd.sizeOf173, ⟨_, Tryd.zeroValue173, rfl⟩, ⟨_, Tryd.typeInfo173, rfl⟩⟩
instance hu173 : HasUnd Tryd.prog 173 := ⟨_, Tryd.runUnderlying173⟩
instance ss173 : StTy Tryd.prog 173 [(0, 1, false), (1, 1, false), (2, 1, false), (3, 1, false), (4, 1, false), (5, 1, false), (6, 1, false), (7, 1, false), (8, 1, false), (9, 1, false), (10, 1, false)] := ⟨_, Tryd.runUnderlying173, rfl, fun i off sz ag h => match i, h with
  | 0, h => by simp only [List.getElem?_cons_zero, List.getElem?_cons_succ, Option.some.injEq, Prod.mk.injEq] at h; obtain ⟨rfl, rfl, rfl⟩ := h; exact ⟨_, rfl, rfl, Tryd.sizeOf12, Tryd.isAgg12⟩
  | 1, h => by simp only [List.getElem?_cons_zero, List.getElem?_cons_succ, Option.some.injEq, Prod.mk.injEq] at h; obtain ⟨rfl, rfl, rfl⟩ := h; exact ⟨_, rfl, rfl, Tryd.sizeOf12, Tryd.isAgg12⟩
  | 2, h => by simp only [List.getElem?_cons_zero, List.getElem?_cons_succ, Option.some.injEq, Prod.mk.injEq] at h; obtain ⟨rfl, rfl, rfl⟩ := h; exact ⟨_, rfl, rfl, Tryd.sizeOf141, Tryd.isAgg141⟩
  | 3, h => by simp only [List.getElem?_cons_zero, List.getElem?_cons_succ, Option.some.injEq, Prod.mk.injEq] at h; obtain ⟨rfl, rfl, rfl⟩ := h; exact ⟨_, rfl, rfl, Tryd.sizeOf166, Tryd.isAgg166⟩
  | 4, h => by simp only [List.getElem?_cons_zero, List.getElem?_cons_succ, Option.some.injEq, Prod.mk.injEq] at h; obtain ⟨rfl, rfl, rfl⟩ := h; exact ⟨_, rfl, rfl, Tryd.sizeOf5, Tryd.isAgg5⟩
  | 5, h => by simp only [List.getElem?_cons_zero, List.getElem?_cons_succ, Option.some.injEq, Prod.mk.injEq] at h; obtain ⟨rfl, rfl, rfl⟩ := h; exact ⟨_, rfl, rfl, Tryd.sizeOf5, Tryd.isAgg5⟩
  | 6, h => by simp only [List.getElem?_cons_zero, List.getElem?_cons_succ, Option.some.injEq, Prod.mk.injEq] at h; obtain ⟨rfl, rfl, rfl⟩ := h; exact ⟨_, rfl, rfl, Tryd.sizeOf167, Tryd.isAgg167⟩
  | 7, h => by simp only [List.getElem?_cons_zero, List.getElem?_cons_succ, Option.some.injEq, Prod.mk.injEq] at h; obtain ⟨rfl, rfl, rfl⟩ := h; exact ⟨_, rfl, rfl, Tryd.sizeOf168, Tryd.isAgg168⟩
  | 8, h => by simp only [List.getElem?_cons_zero, List.getElem?_cons_succ, Option.some.injEq, Prod.mk.injEq] at h; obtain ⟨rfl, rfl, rfl⟩ := h; exact ⟨_, rfl, rfl, Tryd.sizeOf169, Tryd.isAgg169⟩
  | 9, h => by simp only [List.getElem?_cons_zero, List.getElem?_cons_succ, Option.some.injEq, Prod.mk.injEq] at h; obtain ⟨rfl, rfl, rfl⟩ := h; exact ⟨_, rfl, rfl, Tryd.sizeOf170, Tryd.isAgg170⟩
  | 10, h => by simp only [List.getElem?_cons_zero, List.getElem?_cons_succ, Option.some.injEq, Prod.mk.injEq] at h; obtain ⟨rfl, rfl, rfl⟩ := h; exact ⟨_, rfl, rfl, Tryd.sizeOf171, Tryd.isAgg171⟩
  | (i + 11), h => by simp at h⟩
instance ty174 : Ty Tryd.prog 174 false 1 [.pointer none] 8 := ⟨⟨Tryd.t174, _, by kernel_rfl, rfl, rfl, rfl, rfl⟩, Tryd.isAgg174, Tryd.sizeOf174, ⟨_, Tryd.zeroValue174, rfl⟩, ⟨_, Tryd.typeInfo174, rfl⟩⟩
instance hu174 : HasUnd Tryd.prog 174 := ⟨_, Tryd.runUnderlying174⟩
instance en3 : Enters Tryd.prog 3 := ⟨Tryd.call3⟩
instance en4 : Enters Tryd.prog 4 := ⟨Tryd.call4⟩
instance en5 : Enters Tryd.prog 5 := ⟨Tryd.call5⟩
instance en6 : Enters Tryd.prog 6 := ⟨Tryd.call6⟩
instance en7 : Enters Tryd.prog 7 := ⟨Tryd.call7⟩
instance en8 : Enters Tryd.prog 8 := ⟨Tryd.call8⟩
instance en9 : Enters Tryd.prog 9 := ⟨Tryd.call9⟩
instance en10 : Enters Tryd.prog 10 := ⟨Tryd.call10⟩
instance en11 : Enters Tryd.prog 11 := ⟨Tryd.call11⟩
instance en12 : Enters Tryd.prog 12 := ⟨Tryd.call12⟩
instance en13 : Enters Tryd.prog 13 := ⟨Tryd.call13⟩
instance en14 : Enters Tryd.prog 14 := ⟨Tryd.call14⟩
instance en15 : Enters Tryd.prog 15 := ⟨Tryd.call15⟩
instance en16 : Enters Tryd.prog 16 := ⟨Tryd.call16⟩
instance en17 : Enters Tryd.prog 17 := ⟨Tryd.call17⟩
instance en18 : Enters Tryd.prog 18 := ⟨Tryd.call18⟩
instance en19 : Enters Tryd.prog 19 := ⟨Tryd.call19⟩
instance en20 : Enters Tryd.prog 20 := ⟨Tryd.call20⟩
instance en21 : Enters Tryd.prog 21 := ⟨Tryd.call21⟩
instance en22 : Enters Tryd.prog 22 := ⟨Tryd.call22⟩
instance en23 : Enters Tryd.prog 23 := ⟨Tryd.call23⟩
instance en24 : Enters Tryd.prog 24 := ⟨Tryd.call24⟩
instance en25 : Enters Tryd.prog 25 := ⟨Tryd.call25⟩
instance en26 : Enters Tryd.prog 26 := ⟨Tryd.call26⟩
instance en27 : Enters Tryd.prog 27 := ⟨Tryd.call27⟩
instance en28 : Enters Tryd.prog 28 := ⟨Tryd.call28⟩
instance en29 : Enters Tryd.prog 29 := ⟨Tryd.call29⟩
instance en30 : Enters Tryd.prog 30 := ⟨Tryd.call30⟩
instance en31 : Enters Tryd.prog 31 := ⟨Tryd.call31⟩
instance en32 : Enters Tryd.prog 32 := ⟨Tryd.call32⟩
instance en33 : Enters Tryd.prog 33 := ⟨Tryd.call33⟩
instance en34 : Enters Tryd.prog 34 := ⟨Tryd.call34⟩
instance en35 : Enters Tryd.prog 35 := ⟨Tryd.call35⟩
instance en36 : Enters Tryd.prog 36 := ⟨Tryd.call36⟩
instance en37 : Enters Tryd.prog 37 := ⟨Tryd.call37⟩
instance en38 : Enters Tryd.prog 38 := ⟨Tryd.call38⟩
instance en39 : Enters Tryd.prog 39 := ⟨Tryd.call39⟩
instance en40 : Enters Tryd.prog 40 := ⟨Tryd.call40⟩
instance en41 : Enters Tryd.prog 41 := ⟨Tryd.call41⟩
instance en42 : Enters Tryd.prog 42 := ⟨Tryd.call42⟩
instance en43 : Enters Tryd.prog 43 := ⟨Tryd.call43⟩
instance en44 : Enters Tryd.prog 44 := ⟨Tryd.call44⟩
instance en45 : Enters Tryd.prog 45 := ⟨Tryd.call45⟩
instance en46 : Enters Tryd.prog 46 := ⟨Tryd.call46⟩
instance en47 : Enters Tryd.prog 47 := ⟨Tryd.call47⟩
instance en48 : Enters Tryd.prog 48 := ⟨Tryd.call48⟩
instance en49 : Enters Tryd.prog 49 := ⟨Tryd.call49⟩
instance en50 : Enters Tryd.prog 50 := ⟨Tryd.call50⟩
instance en51 : Enters Tryd.prog 51 := ⟨Tryd.call51⟩
instance en52 : Enters Tryd.prog 52 := ⟨Tryd.call52⟩
instance en53 : Enters Tryd.prog 53 := ⟨Tryd.call53⟩
instance en54 : Enters Tryd.prog 54 := ⟨Tryd.call54⟩
instance en55 : Enters Tryd.prog 55 := ⟨Tryd.call55⟩
instance en56 : Enters Tryd.prog 56 := ⟨Tryd.call56⟩
instance en57 : Enters Tryd.prog 57 := ⟨Tryd.call57⟩
instance en58 : Enters Tryd.prog 58 := ⟨Tryd.call58⟩
instance en59 : Enters Tryd.prog 59 := ⟨Tryd.call59⟩
instance en60 : Enters Tryd.prog 60 := ⟨Tryd.call60⟩
instance en61 : Enters Tryd.prog 61 := ⟨Tryd.call61⟩
instance en62 : Enters Tryd.prog 62 := ⟨Tryd.call62⟩
instance en63 : Enters Tryd.prog 63 := ⟨Tryd.call63⟩
instance en64 : Enters Tryd.prog 64 := ⟨Tryd.call64⟩
instance en65 : Enters Tryd.prog 65 := ⟨Tryd.call65⟩
instance en66 : Enters Tryd.prog 66 := ⟨Tryd.call66⟩
instance en67 : Enters Tryd.prog 67 := ⟨Tryd.call67⟩
instance en68 : Enters Tryd.prog 68 := ⟨Tryd.call68⟩
instance en70 : Enters Tryd.prog 70 := ⟨Tryd.call70⟩
instance en71 : Enters Tryd.prog 71 := ⟨Tryd.call71⟩
instance en72 : Enters Tryd.prog 72 := ⟨Tryd.call72⟩
instance en73 : Enters Tryd.prog 73 := ⟨Tryd.call73⟩
instance en74 : Enters Tryd.prog 74 := ⟨Tryd.call74⟩
instance en75 : Enters Tryd.prog 75 := ⟨Tryd.call75⟩
instance en76 : Enters Tryd.prog 76 := ⟨Tryd.call76⟩
instance en77 : Enters Tryd.prog 77 := ⟨Tryd.call77⟩
instance en78 : Enters Tryd.prog 78 := ⟨Tryd.call78⟩
instance en79 : Enters Tryd.prog 79 := ⟨Tryd.call79⟩
instance en80 : Enters Tryd.prog 80 := ⟨Tryd.call80⟩
instance en81 : Enters Tryd.prog 81 := ⟨Tryd.call81⟩
instance en82 : Enters Tryd.prog 82 := ⟨Tryd.call82⟩
instance en83 : Enters Tryd.prog 83 := ⟨Tryd.call83⟩
instance en84 : Enters Tryd.prog 84 := ⟨Tryd.call84⟩
instance en85 : Enters Tryd.prog 85 := ⟨Tryd.call85⟩
instance en86 : Enters Tryd.prog 86 := ⟨Tryd.call86⟩
instance en87 : Enters Tryd.prog 87 := ⟨Tryd.call87⟩
instance en88 : Enters Tryd.prog 88 := ⟨Tryd.call88⟩
instance en89 : Enters Tryd.prog 89 := ⟨Tryd.call89⟩
instance en90 : Enters Tryd.prog 90 := ⟨Tryd.call90⟩
instance en91 : Enters Tryd.prog 91 := ⟨Tryd.call91⟩
instance en92 : Enters Tryd.prog 92 := ⟨Tryd.call92⟩
instance en93 : Enters Tryd.prog 93 := ⟨Tryd.call93⟩
instance en94 : Enters Tryd.prog 94 := ⟨Tryd.call94⟩
instance en95 : Enters Tryd.prog 95 := ⟨Tryd.call95⟩
instance en96 : Enters Tryd.prog 96 := ⟨Tryd.call96⟩
instance en97 : Enters Tryd.prog 97 := ⟨Tryd.call97⟩
instance en98 : Enters Tryd.prog 98 := ⟨Tryd.call98⟩
instance en99 : Enters Tryd.prog 99 := ⟨Tryd.call99⟩
instance en100 : Enters Tryd.prog 100 := ⟨Tryd.call100⟩
instance en101 : Enters Tryd.prog 101 := ⟨Tryd.call101⟩
instance en102 : Enters Tryd.prog 102 := ⟨Tryd.call102⟩
instance en103 : Enters Tryd.prog 103 := ⟨Tryd.call103⟩
instance en104 : Enters Tryd.prog 104 := ⟨Tryd.call104⟩
instance en105 : Enters Tryd.prog 105 := ⟨Tryd.call105⟩
instance en106 : Enters Tryd.prog 106 := ⟨Tryd.call106⟩
end Go.Proofs.YtiampehfpgcogaaDoor
namespace Go.Proofs.YtiampehfpgcogaaDoor
open Go Go.SX
attribute [local irreducible] swp opsS thenS blockS retS CallsS St Ent YieldS anyS drawS
attribute [local irreducible] opsI
abbrev U64 : Int → Value := Value.int .u64
def apRec (fn : FuncId) (tmps : Array Value) (ps : Array Tmp) (assign body : Code) (D : Nat) (st : LoopState) (pe : Option Code) : Loop := { state := st, pending := pe, fn, tmps, params := ps, assign, body, defers := D }
def apJ (rec : Loop) (l D bs : Nat) (pre : List Int) : HP := exH fun x : Option Addr × Nat => allH [pt l (.loop rec), pt D (.deferred (some [])), pt bs (cl [.slice x.1 pre.length x.2] 77), slO 30 1 x.1 pre.length x.2 (pre.map U64)]
theorem apJ_shut {rec : Loop} {l D bs : Nat} {pre : List Int} {a : Option Addr} {c : Nat} {L : List HP} : Ent (pt l (.loop rec) :: pt D (.deferred (some [])) :: pt bs (cl [.slice a pre.length c] 77) :: slO 30 1 a pre.length c (pre.map U64) :: L) (apJ rec l D bs pre :: L) :=
  Ent.trans (Ent.shut_all (L := [_, _, _, _])) (Ent.shut_ex (P := fun x : Option Addr × Nat => allH [pt l (.loop rec), pt D (.deferred (some [])), pt bs (cl [.slice x.1 pre.length x.2] 77), slO 30 1 x.1 pre.length x.2 (pre.map U64)]) (a, c))
theorem apJ_open {rec : Loop} {l D bs : Nat} {pre : List Int} {w : World} {L : List HP} (H : St w (apJ rec l D bs pre :: L)) : ∃ a c, St w (pt l (.loop rec) :: pt D (.deferred (some [])) :: pt bs (cl [.slice a pre.length c] 77) :: slO 30 1 a pre.length c (pre.map U64) :: L) := by
  obtain ⟨x, H⟩ := St.open_ex H
  exact ⟨x.1, x.2, St.ent (Ent.open_all (L := [_, _, _, _])) H⟩
theorem St.obj {w : World} {l : Nat} {o o' : Obj} {L : List HP} (H : St w (pt l o :: L)) : St (w.putObj l o') (pt l o' :: L) := by
  have hl := St.pt_read H
  have hlt : l < w.heap.size := (Array.getElem?_eq_some_iff.1 hl).1
  exact St.pt_write H (World.putObj_heap_same hlt) (fun k hk => World.putObj_heap_other hk) rfl
set_option maxHeartbeats 2000000 in
theorem apRound {fn : FuncId} {tm : Array Value} {l D bs : Nat} {pre : List Int} {x : Int} {assign body : Code} (htm : tm.size = 13) (hbs : tm[2]? = some (.pointer (some ⟨bs, 0, none⟩))) (hN : pre.length < 17592186044416)
    (ha : assign = .region 2 ([⟨some 5, .assign (.tmp 7), 30, "iter.go:51", #[], none⟩] : List Oper).toArray false)
    (hb : ∃ l1 id, body = .block 1 (.region id (l1 : List Oper).toArray false) ∧ okOps 13 l1 = true ∧
      ∀ (v : Int) (a : Option Addr) (c k : Nat) (cs : List Value), k < 17592186044416 → opsI Tryd.prog 13 (some l) l1 l1 (thenS (fun f L => ∃ a' c', L = [pt bs (cl [.slice a' (k + 1) c'] 77), slO 30 1 a' (k + 1) c' (cs ++ [U64 v])]) (fun _ _ _ => False)) (updAll [(2, .pointer (some ⟨bs, 0, none⟩)), (5, U64 v)]) [pt bs (cl [.slice a k c] 77), slO 30 1 a k c cs]) :
    RoundS Tryd.prog l (U64 x) [apJ (apRec fn tm #[7] assign body D .ready none) l D bs pre] [apJ (apRec fn tm #[7] assign body D .ready none) l D bs (pre ++ [x])] := by
  intro F w t
  obtain ⟨a, c, t⟩ := apJ_open (L := F) (by simpa using t)
  have hl := St.pt_read t
  obtain ⟨l1, id, hbd, hok1, hb⟩ := hb
  refine ⟨fn, tm.setIfInBounds 7 (U64 x), _, _, by simpa [apRec] using run_yield (P := Tryd.prog) (args := #[U64 x]) hl rfl, roundIn_of_wpIn trivial ?_⟩
  have s0 : Sim 13 { tmps := tm.setIfInBounds 7 (U64 x), defers := [] } (updAll [(2, .pointer (some ⟨bs, 0, none⟩)), (7, U64 x)]) := by
    refine ⟨rfl, by simp [htm], fun i v e => ?_⟩
    simp only [updAll, upd, e0] at e
    by_cases h2 : i = 2
    · subst h2
      cases e
      rw [Array.getD_eq_getD_getElem?, Array.getElem?_setIfInBounds_ne (by omega), hbs]; rfl
    · by_cases h7 : i = 7
      · subst h7
        cases e
        simp [htm]
      · rw [beq_ne h2, beq_ne h7] at e; cases e
  have hwa : ∀ Q a w, (Code.region 2 ([⟨some 5, .assign (.tmp 7), 30, "iter.go:51", #[], none⟩] : List Oper).toArray false).wpIn (WF (some l)) 0 Tryd.prog Q a w → assign.wpIn (WF (some l)) 0 Tryd.prog Q a w := fun Q a w h => by rw [ha]; exact h
  refine hwa _ _ _ (wpIn_round (r := some l) (n := 13) (L := [pt l (.loop (apRec fn tm #[7] assign body D .ready none)), pt D (.deferred (some [])), pt bs (cl [.slice a pre.length c] 77), slO 30 1 a pre.length c (pre.map U64)]) (F := F) (K := fun f L => f 2 = some (.pointer (some ⟨bs, 0, none⟩)) ∧ f 5 = some (U64 x) ∧ L = [pt l (.loop (apRec fn tm #[7] assign body D .ready none)), pt D (.deferred (some [])), pt bs (cl [.slice a pre.length c] 77), slO 30 1 a pre.length c (pre.map U64)]) ?_ rfl s0 t ?_)
  · refine opsI_one (fun _ h => by cases h) rfl ?_
    repeat (first | (refine GQ.y ?_; refine Q.y ?_) | refine Q.go ?_ | (refine GQ.g ?_; refine Q.gq ?_) | (refine GQ.s ?_; refine Q.st ?_))
    exact opsI_nil (N.tn ⟨rfl, rfl, rfl⟩)
  rintro f L a1 w1 ⟨h2, h5, rfl⟩ s1 t1
  refine ⟨_, run_beginRound (St.pt_read t1) rfl, ?_⟩
  have t2 := St.obj (o' := .loop { (apRec fn tm #[7] assign body D .ready none) with state := .busy }) (L := [pt D (.deferred (some [])), pt bs (cl [.slice a pre.length c] 77), slO 30 1 a pre.length c (pre.map U64)] ++ F) t1
  have t3 : St _ ([pt bs (cl [.slice a pre.length c] 77), slO 30 1 a pre.length c (pre.map U64)] ++ (pt l (.loop { (apRec fn tm #[7] assign body D .ready none) with state := .busy }) :: pt D (.deferred (some [])) :: F)) :=
    St.rot2 t2
  have hwp : ∀ Q a w, (Code.block 1 (.region id l1.toArray false)).wpIn (WF (some l)) 0 Tryd.prog Q a w → body.wpIn (WF (some l)) 0 Tryd.prog Q a w := fun Q a w h => by rw [hbd]; exact h
  refine hwp _ _ _ (wpIn_block (wpIn_round (r := some l) (n := 13) (F := _) (hb x a c pre.length (pre.map U64) hN) hok1 (s1.weaken (updAll_le ⟨h2, h5, trivial⟩)) t3 ?_))
  rintro f L a2 w2 ⟨a', c', rfl⟩ s2 t4
  have t5 : St w2 (pt l (.loop { (apRec fn tm #[7] assign body D .ready none) with state := .busy }) :: pt D (.deferred (some [])) :: ([pt bs (cl [.slice a' (pre.length + 1) c'] 77), slO 30 1 a' (pre.length + 1) c' (pre.map U64 ++ [U64 x])] ++ F)) :=
    St.rot2 t4
  refine ⟨_, _, run_endRound none (St.pt_read t5), rfl, ?_⟩
  have t6 := St.obj (o' := .loop (apRec fn tm #[7] assign body D .ready none)) t5
  have e1 : pre.length + 1 = (pre ++ [x]).length := by simp
  have e2 : pre.map U64 ++ [U64 x] = (pre ++ [x]).map U64 := by simp
  rw [e1, e2] at t6
  have t7 := St.ent (apJ_shut (L := F)) t6
  simpa [apRec] using t7
set_option maxHeartbeats 2000000 in
theorem AppendSeq_spec (gf : FuncId) (lb : List Value) [he : Enters Tryd.prog gf] (Sp : List Int → Prop) (A A' : List HP) (hseq : SeqS Tryd.prog gf lb U64 17592186044416 Sp A A') :
    CallsS Tryd.prog 71 [.slice none 0 0, .func (.func gf) #[] lb.toArray] A (fun v L' => ∃ ks a c, Sp ks ∧ v = .slice a ks.length c ∧ L' = slO 30 1 a ks.length c (ks.map U64) :: A') := by
  refine CallsS.mk' fun F w t => ?_
  refine (callsIn_wide (n := 1)).1 (callsIn_of_wp_marks Tryd.func71 rfl trivial ?_)
  have s0 : Sim 13 { tmps := #[.slice none 0 0, .func (.func gf) #[] lb.toArray] ++ Array.replicate 11 undef, defers := [] } (argEnv [.slice none 0 0, .func (.func gf) #[] lb.toArray] 0) := by
    refine ⟨rfl, by simp, fun i v e => ?_⟩
    obtain ⟨_, h2⟩ := argEnv_at _ 0 i v e
    simp only [Nat.sub_zero] at h2
    have hi : i < 2 := (List.getElem?_eq_some_iff.1 h2).1
    match i, hi, h2 with
    | 0, _, h2 => simpa using h2
    | 1, _, h2 => simpa using h2
  refine wpIn_of_swp (n := 13) (F := F) (K := fun f L => ∃ bs, f 1 = some (.func (.func gf) #[] lb.toArray) ∧ f 2 = some (.pointer (some ⟨bs, 0, none⟩)) ∧ L = pt bs (cl [.slice none 0 0] 77) :: A) ?_ rfl s0 t ?_
  · refine Q.r ?_; (repeat (intro b1; refine Q.r ?_))
    exact ⟨_, rfl, rfl, rfl⟩
  rintro f L a1 w1 ⟨bs, h1, h2, rfl⟩ s1 t1
  refine wpIn_seq ?_
  refine wpIn_of_swp (n := 13) (F := F) (K := fun f L => f 6 = some (.func (.func gf) #[] lb.toArray) ∧ f 2 = some (.pointer (some ⟨bs, 0, none⟩)) ∧ L = pt bs (cl [.slice none 0 0] 77) :: A) (f := updAll [(1, .func (.func gf) #[] lb.toArray), (2, .pointer (some ⟨bs, 0, none⟩))]) ?_ rfl (s1.weaken (updAll_le ⟨h1, h2, trivial⟩)) t1 ?_
  · refine Q.r ?_; (repeat (intro b1; refine Q.r ?_))
    exact ⟨rfl, rfl, rfl⟩
  rintro f L a2 w2 ⟨h6, h2, rfl⟩ s2 t2
  obtain ⟨tm, htm⟩ : ∃ tm, tm = a2.tmps := ⟨_, rfl⟩
  have hsz : tm.size = 13 := by rw [htm]; exact s2.size
  have h2' : tm[2]? = some (.pointer (some ⟨bs, 0, none⟩)) := by
    have := s2.at_ 2 _ h2
    rw [← htm, Array.getD_eq_getD_getElem?] at this
    have hlt : 2 < tm.size := by omega
    rw [Array.getElem?_eq_getElem hlt] at this ⊢
    simpa using this
  have hev : a2.eval (.tmp 6) = .func (.func gf) #[] lb.toArray := s2.eval (x := .tmp 6) h6
  refine wpIn_block (wpIn_rangeF hev fun fn => ?_)
  have t3 := St.pt_new (w' := w2.alloc (.deferred (some []))) t2 rfl rfl
  generalize hr0 : ({ state := .ready, pending := none, fn, tmps := a2.tmps, params := #[7], assign := _, body := _, defers := w2.heap.size } : Loop) = rec
  have t4 := St.pt_new (w' := (w2.alloc (.deferred (some []))).alloc (.loop rec)) t3 rfl rfl
  obtain ⟨As, hA⟩ : ∃ A, A = rec.assign := ⟨_, rfl⟩
  obtain ⟨Bs, hB⟩ : ∃ B, B = rec.body := ⟨_, rfl⟩
  have hrec : rec = apRec fn tm #[7] As Bs w2.heap.size .ready none := by rw [hA, hB, htm, ← hr0]; rfl
  have hA' : As = .region 2 ([⟨some 5, .assign (.tmp 7), 30, "iter.go:51", #[], none⟩] : List Oper).toArray false := by rw [hA, ← hr0]
  have hB' : ∃ l1 id, Bs = .block 1 (.region id (l1 : List Oper).toArray false) ∧ okOps 13 l1 = true ∧
      ∀ (v : Int) (a : Option Addr) (c k : Nat) (cs : List Value), k < 17592186044416 → opsI Tryd.prog 13 (some (w2.heap.size + 1)) l1 l1 (thenS (fun f L => ∃ a' c', L = [pt bs (cl [.slice a' (k + 1) c'] 77), slO 30 1 a' (k + 1) c' (cs ++ [U64 v])]) (fun _ _ _ => False)) (updAll [(2, .pointer (some ⟨bs, 0, none⟩)), (5, U64 v)]) [pt bs (cl [.slice a k c] 77), slO 30 1 a k c cs] := by
    refine ⟨_, 3, by rw [hB, ← hr0], rfl, fun v a c k cs hk => ?_⟩
    refine opsI_one (fun _ h => by cases h) rfl ?_
    refine Q.r ?_; (repeat (intro b1; refine Q.r ?_))
    refine opsI_one (fun _ h => by cases h) rfl ?_
    refine Q.r ?_; (repeat (intro b1; refine Q.r ?_))
    refine opsI_one (fun _ h => by cases h) rfl ?_
    refine Q.r ?_; (repeat (intro b1; refine Q.r ?_))
    refine opsI_one (fun _ h => by cases h) rfl ?_
    refine S.app rfl rfl (SrcS.sl RdC.row (by rfl) (by rfl)) (by rfl) (by omega) (by omega) (fun a' c' => ?_)
    refine Q.r ?_; (repeat (intro b1; refine Q.r ?_))
    refine opsI_one (fun _ h => by cases h) rfl ?_
    refine Q.r ?_; (repeat (intro b1; refine Q.r ?_))
    exact opsI_ent (Ent.drop (Ent.refl _)) (opsI_nil (N.tn ⟨a', c', rfl⟩))
  clear hA hB
  subst hrec
  clear hr0
  have hcall := hseq (w2.heap.size + 1) (apJ (apRec fn tm #[7] As Bs w2.heap.size .ready none) (w2.heap.size + 1) w2.heap.size bs) (fun pre x hp => apRound hsz h2' hp hA' hB')
  have hsz1 : (w2.alloc (.deferred (some []))).heap.size = w2.heap.size + 1 := by simp
  rw [hsz1] at t4
  have t5 := St.ent (apJ_shut (pre := []) (L := A ++ F)) (St.ent (Ent.cons (Ent.cons (Ent.cons slO_nil))) t4)
  refine (CallsS.run hcall t5).mono ?_
  rintro e w3 ⟨v, L', rfl, t6, ks, hks, rfl⟩
  obtain ⟨a, c, t7⟩ := apJ_open (L := A' ++ F) t6
  refine ⟨v, _, rfl, run_endLoop (St.pt_read t7) (by simp [apRec]), ?_⟩
  have t8 := St.obj (o' := .loop { apRec fn tm #[7] As Bs w2.heap.size .ready none with state := .exhausted }) t7
  have t9 := t8.tail
  generalize w3.putObj (w2.heap.size + 1) (.loop { apRec fn tm #[7] As Bs w2.heap.size .ready none with state := .exhausted }) = w4 at t9
  have hD := St.pt_read t9
  have hcell := St.pt_read t9.tail
  simp only [Exit.inBlock, Exit.then]
  have hload : (Instr.loadAt 77 (.pointer (some ⟨bs, 0, none⟩))).run Tryd.prog w4 = .ok (.slice a ks.length c) w4 := run_loadVar1 (P := Tryd.prog) (b := bs) (o := 0) (by simp [World.cell?, hcell, cl])
  have hd0 : a2.tmps.getD 2 undef = .pointer (some ⟨bs, 0, none⟩) := s2.at_ 2 _ h2
  have hd1 : a2.tmps.size = 13 := s2.size
  have hd2 : a2.defers = [] := s2.defers
  refine wpIn_seq (wpIn_region_lit ?_)
  refine wpListIn_plain rfl fun K hK => ⟨fun _ _ => trivial, ?_⟩
  rw [Oper.semAt_eq _ _ _ (fun _ h => by cases h)]
  simp only [execOp, Act.eval, hd0, Sem.run_bind, hload, Result.andThen_ok, Sem.run_pure]
  refine hK _ _ (wpListIn_plain rfl fun K' hK' => ⟨fun _ _ => trivial, ?_⟩)
  rw [Oper.semAt_eq _ _ _ (fun _ h => by cases h)]
  simp only [execOp, Act.eval, Sem.run_pure]
  refine hK' _ _ (wpListIn_nil (wpIn_ret ?_))
  refine ⟨by simp, .inl ⟨_, _, rfl, run_takeDeferred hD, ?_⟩⟩
  rw [hd2]
  refine ⟨_, results_tmp rfl _ _ _, _, slO 30 1 a ks.length c (ks.map U64) :: A', ?_, (St.obj (o' := .deferred none) t9).tail.tail, ks, a, c, hks, rfl, rfl⟩
  simp [Act.put, hd1]
theorem Collect_spec (gf : FuncId) (lb : List Value) [he : Enters Tryd.prog gf] (Sp : List Int → Prop) (A A' : List HP) (hseq : SeqS Tryd.prog gf lb U64 17592186044416 Sp A A') :
    CallsS Tryd.prog 58 [.func (.func gf) #[] lb.toArray] A (fun v L' => ∃ ks a c, Sp ks ∧ v = .slice a ks.length c ∧ L' = slO 30 1 a ks.length c (ks.map U64) :: A') := by
  refine CallsS.of_body Tryd.func58 rfl rfl rfl ?_
  refine Q.r ?_; (repeat (intro b1; refine Q.r ?_))
  refine S.cr rfl (AppendSeq_spec gf lb Sp A A' hseq) ?_
  rintro _ _ ⟨ks, a, c, hks, rfl, rfl⟩
  refine Q.r ?_; (repeat (intro b1; refine Q.r ?_))
  exact N.r1 (RV.tmp rfl RV.nil) (Ent.refl _) ⟨ks, a, c, hks, rfl, rfl⟩
end Go.Proofs.YtiampehfpgcogaaDoor
namespace Go.Proofs.YtiampehfpgcogaaDoor
open Go Go.SX
attribute [local irreducible] swp opsS thenS blockS retS CallsS St Ent YieldS anyS drawS
abbrev I32 : Int → Value := Value.int .i32
abbrev cI (z : Int) : List Value := [I32 z]
abbrev cU (z : Int) : List Value := [U64 z]
structure OV where
  id : Int
  a : Option Addr
  c : Nat
  vec : List Int
abbrev OV.cells (o : OV) : List Value := [.int .u64 o.id, .slice o.a o.vec.length o.c]
abbrev OV.val (o : OV) : Value := .agg #[.int .u64 o.id, .slice o.a o.vec.length o.c]
abbrev OV.abs (o : OV) : Int × List Int := (o.id, o.vec)
theorem flat_I (xs : List Int) : xs.flatMap cI = xs.map I32 := by induction xs with
  | nil => rfl
  | cons x xs ih => rw [List.flatMap_cons, ih]; rfl
theorem OV_one (xs : List OV) : (xs.flatMap OV.cells).all (·.oneCell') = true := by simp [Value.oneCell']
theorem IdxI_spec (f : FuncId) (fs cs : List Value) [he : Enters Tryd.prog f] (p : Int → Bool) (a : Option Addr) (c : Nat) (xs : List Int) (A : List HP) (h : RdS A a xs.length 1 (xs.flatMap cI)) (hn : xs.length ≤ 4611686018427387904)
    (hf : ∀ x ∈ xs, CallsS Tryd.prog f (fs ++ [I32 x] ++ cs) A (fun v L' => v = .bool (p x) ∧ L' = A)) :
    CallsS Tryd.prog 73 [.slice a xs.length c, .func (.func f) fs.toArray cs.toArray] A (fun v L' => (∃ i : Int, v = .int .i64 i ∧ decide (0 ≤ i) = xs.any p) ∧ L' = A) := by
  refine CallsS.of_body Tryd.func73 rfl rfl rfl ?_
  refine Q.r ?_; (repeat (intro b1; refine Q.r ?_))
  refine swp_loop (σ := Nat) (fun k => [(0, .slice a xs.length c), (1, .func (.func f) fs.toArray cs.toArray), (7, .int .i64 xs.length), (8, .int .i64 k)]) (fun _ => A)
    (fun k => k ≤ xs.length ∧ (xs.take k).any p = false) (fun k => xs.length - k) 0 ⟨rfl, rfl, rfl, rfl, trivial⟩ (Ent.refl _) ⟨by omega, by simp⟩ ?_
  rintro k ⟨hk, hany⟩
  by_cases hlt : k < xs.length
  · obtain ⟨x, hx⟩ := mem_get hlt
    obtain ⟨b, o, rfl, hr⟩ := RdS.elem (g := cI) (fun _ => rfl) h hx rfl
    have hmx : x ∈ xs := List.mem_of_getElem? hx
    refine Q.r ?_; (repeat (intro b1; refine Q.r ?_))
    refine S.crF (fs := fs) (cs := cs) rfl rfl (hf x hmx) ?_
    rintro _ _ ⟨rfl, rfl⟩
    cases hp : p x with
    | true =>
      refine Q.r ?_; (repeat (intro b1; refine Q.r ?_))
      exact N.r1 (RV.tmp rfl RV.nil) (Ent.refl _) ⟨⟨_, rfl, by rw [show xs.any p = true from List.any_eq_true.2 ⟨x, hmx, hp⟩]; simp⟩, rfl⟩
    | false =>
      refine Q.r ?_; (repeat (intro b1; refine Q.r ?_))
      refine ⟨k + 1, ⟨rfl, rfl, rfl, rfl, trivial⟩, Ent.refl _, ⟨by omega, ?_⟩, by omega⟩
      rw [take_snoc hx, List.any_append, hany] <;> simp [hp]
  · have hke : k = xs.length := by omega
    subst hke
    rw [List.take_length] at hany
    refine Q.r ?_; (repeat (intro b1; refine Q.r ?_))
    exact N.r1 (RV.tmp rfl RV.nil) (Ent.refl _) ⟨⟨_, rfl, by rw [hany] <;> rfl⟩, rfl⟩
theorem HasI_spec (f : FuncId) (fs cs : List Value) [he : Enters Tryd.prog f] (p : Int → Bool) (a : Option Addr) (c : Nat) (xs : List Int) (A : List HP) (h : RdS A a xs.length 1 (xs.flatMap cI)) (hn : xs.length ≤ 4611686018427387904)
    (hf : ∀ x ∈ xs, CallsS Tryd.prog f (fs ++ [I32 x] ++ cs) A (fun v L' => v = .bool (p x) ∧ L' = A)) :
    CallsS Tryd.prog 63 [.slice a xs.length c, .func (.func f) fs.toArray cs.toArray] A (fun v L' => v = .bool (xs.any p) ∧ L' = A) := by
  refine CallsS.of_body Tryd.func63 rfl rfl rfl ?_
  refine Q.r ?_; (repeat (intro b1; refine Q.r ?_))
  refine S.cr rfl (IdxI_spec f fs cs p a c xs A h hn hf) ?_
  rintro _ _ ⟨⟨i, rfl, hi⟩, rfl⟩
  refine Q.r ?_; (repeat (intro b1; refine Q.r ?_))
  exact N.r1 (RV.tmp rfl RV.nil) (Ent.refl _) ⟨by rw [← hi], rfl⟩
theorem IdxO_spec (f : FuncId) (fs cs : List Value) [he : Enters Tryd.prog f] (p : OV → Bool) (a : Option Addr) (c : Nat) (xs : List OV) (A : List HP) (h : RdS A a xs.length 2 (xs.flatMap OV.cells)) (hn : xs.length ≤ 4611686018427387904)
    (hf : ∀ x ∈ xs, CallsS Tryd.prog f (fs ++ [OV.val x] ++ cs) A (fun v L' => v = .bool (p x) ∧ L' = A)) :
    CallsS Tryd.prog 61 [.slice a xs.length c, .func (.func f) fs.toArray cs.toArray] A (fun v L' => (∃ i : Int, v = .int .i64 i ∧ decide (0 ≤ i) = xs.any p) ∧ L' = A) := by
  refine CallsS.of_body Tryd.func61 rfl rfl rfl ?_
  refine Q.r ?_; (repeat (intro b1; refine Q.r ?_))
  refine swp_loop (σ := Nat) (fun k => [(0, .slice a xs.length c), (1, .func (.func f) fs.toArray cs.toArray), (7, .int .i64 xs.length), (8, .int .i64 k)]) (fun _ => A)
    (fun k => k ≤ xs.length ∧ (xs.take k).any p = false) (fun k => xs.length - k) 0 ⟨rfl, rfl, rfl, rfl, trivial⟩ (Ent.refl _) ⟨by omega, by simp⟩ ?_
  rintro k ⟨hk, hany⟩
  by_cases hlt : k < xs.length
  · obtain ⟨x, hx⟩ := mem_get hlt
    obtain ⟨b, o, rfl, hr⟩ := RdS.elem (g := OV.cells) (fun _ => rfl) h hx rfl
    have hmx : x ∈ xs := List.mem_of_getElem? hx
    refine Q.r ?_; (repeat (intro b1; refine Q.r ?_))
    refine S.crF (fs := fs) (cs := cs) rfl rfl (hf x hmx) ?_
    rintro _ _ ⟨rfl, rfl⟩
    cases hp : p x with
    | true =>
      refine Q.r ?_; (repeat (intro b1; refine Q.r ?_))
      exact N.r1 (RV.tmp rfl RV.nil) (Ent.refl _) ⟨⟨_, rfl, by rw [show xs.any p = true from List.any_eq_true.2 ⟨x, hmx, hp⟩]; simp⟩, rfl⟩
    | false =>
      refine Q.r ?_; (repeat (intro b1; refine Q.r ?_))
      refine ⟨k + 1, ⟨rfl, rfl, rfl, rfl, trivial⟩, Ent.refl _, ⟨by omega, ?_⟩, by omega⟩
      rw [take_snoc hx, List.any_append, hany] <;> simp [hp]
  · have hke : k = xs.length := by omega
    subst hke
    rw [List.take_length] at hany
    refine Q.r ?_; (repeat (intro b1; refine Q.r ?_))
    exact N.r1 (RV.tmp rfl RV.nil) (Ent.refl _) ⟨⟨_, rfl, by rw [hany] <;> rfl⟩, rfl⟩
theorem HasO_spec (f : FuncId) (fs cs : List Value) [he : Enters Tryd.prog f] (p : OV → Bool) (a : Option Addr) (c : Nat) (xs : List OV) (A : List HP) (h : RdS A a xs.length 2 (xs.flatMap OV.cells)) (hn : xs.length ≤ 4611686018427387904)
    (hf : ∀ x ∈ xs, CallsS Tryd.prog f (fs ++ [OV.val x] ++ cs) A (fun v L' => v = .bool (p x) ∧ L' = A)) :
    CallsS Tryd.prog 50 [.slice a xs.length c, .func (.func f) fs.toArray cs.toArray] A (fun v L' => v = .bool (xs.any p) ∧ L' = A) := by
  refine CallsS.of_body Tryd.func50 rfl rfl rfl ?_
  refine Q.r ?_; (repeat (intro b1; refine Q.r ?_))
  refine S.cr rfl (IdxO_spec f fs cs p a c xs A h hn hf) ?_
  rintro _ _ ⟨⟨i, rfl, hi⟩, rfl⟩
  refine Q.r ?_; (repeat (intro b1; refine Q.r ?_))
  exact N.r1 (RV.tmp rfl RV.nil) (Ent.refl _) ⟨by rw [← hi], rfl⟩
end Go.Proofs.YtiampehfpgcogaaDoor
namespace Go.Proofs.YtiampehfpgcogaaDoor
open Go Go.SX
attribute [local irreducible] swp opsS thenS blockS retS CallsS St Ent YieldS anyS drawS
def badC (z : Int) : Bool := decide (z < -268435456) || decide (268435456 < z)
def rightV (xs : List Int) : Bool := decide (0 < xs.length) && decide (xs.length ≤ 8) && !xs.any badC
instance : Enters Tryd.prog 64 := en64
theorem Right1_spec (z : Int) (L : List HP) : CallsS Tryd.prog 64 [I32 z] L (fun v L' => v = .bool (badC z) ∧ L' = L) := by
  refine CallsS.of_body Tryd.func64 rfl rfl rfl ?_
  by_cases h : z < -268435456
  · refine Q.r ?_; (repeat (intro b1; refine Q.r ?_))
    exact N.r1 (RV.tmp rfl RV.nil) (Ent.refl _) ⟨by simp [badC, h], rfl⟩
  · refine Q.r ?_; (repeat (intro b1; refine Q.r ?_))
    exact N.r1 (RV.tmp rfl RV.nil) (Ent.refl _) ⟨by simp [badC, h], rfl⟩
theorem Right_spec (a : Option Addr) (c : Nat) (xs : List Int) (A : List HP) (h : RdS A a xs.length 1 (xs.map I32)) (hn : xs.length ≤ 4611686018427387904) :
    CallsS Tryd.prog 54 [.slice a xs.length c] A (fun v L' => v = .bool (rightV xs) ∧ L' = A) := by
  refine CallsS.of_body Tryd.func54 rfl rfl rfl ?_
  unfold rightV
  by_cases h0 : 0 < xs.length
  · by_cases h8 : xs.length ≤ 8
    · refine Q.r ?_; (repeat (intro b1; refine Q.r ?_))
      refine S.cr rfl (HasI_spec 64 [] [] badC a c xs A (by rw [flat_I]; exact h) hn (fun x _ => Right1_spec x A)) ?_
      rintro _ _ ⟨rfl, rfl⟩
      refine Q.r ?_; (repeat (intro b1; refine Q.r ?_))
      exact N.r1 (RV.tmp rfl RV.nil) (Ent.refl _) ⟨by simp [h0, h8], rfl⟩
    · refine Q.r ?_; (repeat (intro b1; refine Q.r ?_))
      exact N.r1 (RV.tmp rfl RV.nil) (Ent.refl _) ⟨by simp [h0, h8], rfl⟩
  · refine Q.r ?_; (repeat (intro b1; refine Q.r ?_))
    exact N.r1 (RV.tmp rfl RV.nil) (Ent.refl _) ⟨by simp [h0], rfl⟩
end Go.Proofs.YtiampehfpgcogaaDoor
namespace Go.SX
open Go
def ar (k : IntKind) (d : Array Int) (rest : List Value) : List Value := d.toList.map (Value.int k) ++ rest
theorem ar_len {k : IntKind} {d : Array Int} {rest : List Value} : (ar k d rest).length = d.size + rest.length := by simp [ar]
theorem ar_get {k : IntKind} {d : Array Int} {rest : List Value} {i : Nat} (h : i < d.size) : (ar k d rest)[i]? = some (.int k d[i]!) := by
  unfold ar
  rw [List.getElem?_append_left (by simpa using h)]
  simp [h]
theorem ar_set {k : IntKind} {d : Array Int} {rest : List Value} {i : Nat} {v : Int} (h : i < d.size) : (ar k d rest).set i (.int k v) = ar k (d.setIfInBounds i v) rest := by
  unfold ar
  rw [List.set_append_left _ _ (by simpa using h)]
  simp
section
variable {P : Program} {n : Nat} {ops rest : List Oper} {Q : Post} {f : Env} {A L : List HP} {d : Tmp} {ty : TypeId} {pos : String} {af : Array Edge}
theorem Y.addN {x y : Operand} {t t' : TypeId} {a b : Nat} (hx : ev f x = some (.int .i64 (Int.ofNat a))) (hy : ev f y = some (.int .i64 (Int.ofNat b))) (h : a + b ≤ 9223372036854775807) : YieldS P n ops ⟨some d, .binOp .add t x y t', ty, pos, af, none⟩ f A (.int .i64 ((a + b : Nat) : Int)) :=
  Y.addi hx hy rfl (by omega) (by omega)
theorem Y.subN {x y : Operand} {t t' : TypeId} {a b : Nat} (hx : ev f x = some (.int .i64 (Int.ofNat a))) (hy : ev f y = some (.int .i64 (Int.ofNat b))) (h : b ≤ a ∧ a ≤ 9223372036854775807) : YieldS P n ops ⟨some d, .binOp .sub t x y t', ty, pos, af, none⟩ f A (.int .i64 ((a - b : Nat) : Int)) :=
  Y.subi hx hy (by have := h.1; show (a : Int) - (b : Int) = _; omega) (by omega) (by omega)
theorem Y.mulN {x y : Operand} {t t' : TypeId} {a b : Nat} (hx : ev f x = some (.int .i64 (Int.ofNat a))) (hy : ev f y = some (.int .i64 (Int.ofNat b))) (h : a * b ≤ 9223372036854775807) : YieldS P n ops ⟨some d, .binOp .mul t x y t', ty, pos, af, none⟩ f A (.int .i64 ((a * b : Nat) : Int)) := by
  have := Y.mul (P := P) (n := n) (ops := ops) (A := A) (d := d) (ty := ty) (pos := pos) (af := af) (t := t) (t' := t') hx hy
  have e : (Int.ofNat a) * (Int.ofNat b) = ((a * b : Nat) : Int) := rfl
  rwa [e, wrap_i64 (by omega) (by omega)] at this
theorem Y.quoN {x y : Operand} {t t' : TypeId} {a b : Nat} (hx : ev f x = some (.int .i64 (Int.ofNat a))) (hy : ev f y = some (.int .i64 (Int.ofNat b))) (h : 0 < b ∧ a ≤ 9223372036854775807) : YieldS P n ops ⟨some d, .binOp .quo t x y t', ty, pos, af, none⟩ f A (.int .i64 ((a / b : Nat) : Int)) := by
  have := Y.quo (P := P) (n := n) (ops := ops) (A := A) (d := d) (ty := ty) (pos := pos) (af := af) (t := t) (t' := t') hx hy (by have := h.1; show ¬ (b : Int) = 0; omega)
  have e : (Int.ofNat a).tdiv (Int.ofNat b) = ((a / b : Nat) : Int) := rfl
  have h2 : a / b ≤ a := Nat.div_le_self ..
  have h3 := h.2
  rwa [e, wrap_i64 (by generalize a / b = q at *; omega) (by generalize a / b = q at *; omega)] at this
theorem Y.addC {x y : Operand} {t t' : TypeId} {a b : Nat} (hx : ev f x = some (.int .i64 (Int.ofNat a))) (hy : ev f y = some (.int .i64 (@OfNat.ofNat Int b instOfNat))) (h : a + (@OfNat.ofNat Nat b (instOfNatNat b)) ≤ 9223372036854775807) : YieldS P n ops ⟨some d, .binOp .add t x y t', ty, pos, af, none⟩ f A (.int .i64 ((a + (@OfNat.ofNat Nat b (instOfNatNat b)) : Nat) : Int)) := Y.addN (b := b) hx hy h
theorem Y.subC {x y : Operand} {t t' : TypeId} {a b : Nat} (hx : ev f x = some (.int .i64 (Int.ofNat a))) (hy : ev f y = some (.int .i64 (@OfNat.ofNat Int b instOfNat))) (h : (@OfNat.ofNat Nat b (instOfNatNat b)) ≤ a ∧ a ≤ 9223372036854775807) : YieldS P n ops ⟨some d, .binOp .sub t x y t', ty, pos, af, none⟩ f A (.int .i64 ((a - (@OfNat.ofNat Nat b (instOfNatNat b)) : Nat) : Int)) := Y.subN (b := b) hx hy h
theorem Y.mulC {x y : Operand} {t t' : TypeId} {a b : Nat} (hx : ev f x = some (.int .i64 (Int.ofNat a))) (hy : ev f y = some (.int .i64 (@OfNat.ofNat Int b instOfNat))) (h : a * (@OfNat.ofNat Nat b (instOfNatNat b)) ≤ 9223372036854775807) : YieldS P n ops ⟨some d, .binOp .mul t x y t', ty, pos, af, none⟩ f A (.int .i64 ((a * (@OfNat.ofNat Nat b (instOfNatNat b)) : Nat) : Int)) := Y.mulN (b := b) hx hy h
theorem Y.mulD {x y : Operand} {t t' : TypeId} {a b : Nat} (hx : ev f x = some (.int .i64 (@OfNat.ofNat Int b instOfNat))) (hy : ev f y = some (.int .i64 (Int.ofNat a))) (h : (@OfNat.ofNat Nat b (instOfNatNat b)) * a ≤ 9223372036854775807) : YieldS P n ops ⟨some d, .binOp .mul t x y t', ty, pos, af, none⟩ f A (.int .i64 (((@OfNat.ofNat Nat b (instOfNatNat b)) * a : Nat) : Int)) := Y.mulN (a := b) (b := a) hx hy h
theorem Y.quoC {x y : Operand} {t t' : TypeId} {a b : Nat} (hx : ev f x = some (.int .i64 (Int.ofNat a))) (hy : ev f y = some (.int .i64 (@OfNat.ofNat Int b instOfNat))) (h : 0 < (@OfNat.ofNat Nat b (instOfNatNat b)) ∧ a ≤ 9223372036854775807) : YieldS P n ops ⟨some d, .binOp .quo t x y t', ty, pos, af, none⟩ f A (.int .i64 ((a / (@OfNat.ofNat Nat b (instOfNatNat b)) : Nat) : Int)) := Y.quoN (b := b) hx hy h
theorem Y.iaN {x y : Operand} {t e : TypeId} {b o m c sz bts k : Nat} {ag : Bool} {zs : List Value} {kk : IntKind} [h : SlTy P t e] [h2 : Ty P e ag sz zs bts] (hx : ev f x = some (.slice (some ⟨b, o, none⟩) m c)) (hy : ev f y = some (.int kk (Int.ofNat k))) (h1 : k < m) :
    YieldS P n ops ⟨some d, .indexAddr t x y, ty, pos, af, none⟩ f A (.pointer (some ⟨b, o + k * sz, none⟩)) := Y.ia hx hy rfl h1
theorem Y.ldI {x : Operand} {t t0 sz bts : Nat} {zs : List Value} {b z : Nat} {k : IntKind} {dd : Array Int} {rs : List Value} [h : Ty P t false sz zs bts] [hb : FindB b A (cl (ar k dd rs) t0)] (hx : ev f x = some (.pointer (some ⟨b, 0 + z * 1, none⟩))) (hz : z < dd.size) :
    YieldS P n ops ⟨some d, .load t x, ty, pos, af, none⟩ f A (.int k dd[z]!) := Y.ld (h := h) (hb := hb) hx (by rw [Nat.zero_add, Nat.mul_one]; exact ar_get hz)
theorem S.stI {x y : Operand} {t t0 bts : Nat} {ag : Bool} {zs : List Value} {b z : Nat} {v : Int} {k : IntKind} {dd : Array Int} {rs : List Value} {L' : Obj → List HP} [h : Ty P t ag 1 zs bts] [hb : UpdB b L (cl (ar k dd rs) t0) L']
    (hx : ev f x = some (.pointer (some ⟨b, 0 + z * 1, none⟩))) (hy : ev f y = some (.int k v)) (hz : z < dd.size)
    (hk : opsS P n ops rest Q f (L' (cl (ar k (dd.setIfInBounds z v) rs) t0))) : opsS P n ops (⟨none, .store t x y, ty, pos, af, none⟩ :: rest) Q f L :=
  S.st1 (h := h) (hb := hb) hx hy rfl (Nat.ble_eq_true_of_le (by rw [ar_len]; omega)) (by rw [Nat.zero_add, Nat.mul_one]; exact ar_set hz) hk
end
theorem swp_size {d : Array Int} {i j : Nat} : (Sort.swp d i j).size = d.size := by simp [Sort.swp]
section
variable {P : Program} {n : Nat} {ops rest : List Oper} {Q : Post} {f : Env} {A L : List HP} {E cs σ : List Nat} {listed : Array Bool} {held : Bool}
variable {d : Tmp} {op : Op} {ty : TypeId} {pos : String} {af : Array Edge} {g : Option (Nat × Bool)} {v : Value}
theorem Q.yn (hk : opsS P n ops rest Q (upd f d v) L) (hy : YieldS P n ops ⟨some d, op, ty, pos, af, g⟩ f L v := by first | exact Y.addN rfl rfl (by omega) | exact Y.addC rfl rfl (by omega) | exact Y.subN rfl rfl (by omega) | exact Y.subC rfl rfl (by omega) | exact Y.iaN rfl rfl (by omega) | exact Y.mulC rfl rfl (by omega) | exact Y.mulD rfl rfl (by omega) | exact Y.quoC rfl rfl (by omega) | exact Y.ldI rfl (by omega)) : opsS P n ops (⟨some d, op, ty, pos, af, g⟩ :: rest) Q f L := S.y hy hk
theorem Q.dyn {i : Nat} (hi : ops[i]? = some ⟨some d, op, ty, pos, af, g⟩) (h9 : Nat.beq i 99999 = false) (hE : E.contains i = false) (h : drawS P n ops E cs A σ Q (listed.setIfInBounds i true) held (upd f d v) L)
    (hy : YieldS P n ops ⟨some d, op, ty, pos, af, g⟩ f [] v := by first | exact Y.addN rfl rfl (by omega) | exact Y.addC rfl rfl (by omega) | exact Y.subN rfl rfl (by omega) | exact Y.subC rfl rfl (by omega) | exact Y.iaN rfl rfl (by omega) | exact Y.mulC rfl rfl (by omega) | exact Y.mulD rfl rfl (by omega) | exact Y.quoC rfl rfl (by omega) | exact Y.guard rfl (by first | exact Y.addN rfl rfl (by omega) | exact Y.addC rfl rfl (by omega) | exact Y.subN rfl rfl (by omega) | exact Y.subC rfl rfl (by omega) | exact Y.iaN rfl rfl (by omega) | exact Y.mulC rfl rfl (by omega) | exact Y.mulD rfl rfl (by omega) | exact Y.quoC rfl rfl (by omega))) : drawS P n ops E cs A (i :: σ) Q listed held f L := D.yp hi h9 hE hy h
theorem Q.dyl {i : Nat} (hi : ops[i]? = some ⟨some d, op, ty, pos, af, g⟩) (h9 : Nat.beq i 99999 = false) (hE : E.contains i = false) (h : drawS P n ops E cs A σ Q (listed.setIfInBounds i true) true (upd f d v) L)
    (hc : (cs.all fun m => m != i && (ops.toArray[m]?).isSome && reach ops.toArray 4 i m) = true := by kernel_rfl) (hy : YieldS P n ops ⟨some d, op, ty, pos, af, g⟩ f A v := by first | exact Y.ldI rfl (by omega) | exact Y.guard rfl (Y.ldI rfl (by omega))) : drawS P n ops E cs A (i :: σ) Q listed true f L := D.y hi h9 hE hc hy h
end
namespace Q
theorem rn {A B : Prop} (hk : B) (h : W B → A := by intro hk; (repeat (first | refine Q.yn ?_ | refine S.stI rfl rfl (by first | omega | (rw [Array.size_setIfInBounds]; omega)) ?_ | (refine GQ.y ?_; refine Q.y ?_) | refine Q.go ?_ | (refine GQ.g ?_; refine Q.gq ?_) | (refine GQ.s ?_; refine Q.st ?_) | (refine GQ.g ?_; refine Q.gd ?_) | refine Q.ct rfl ?_ | refine Q.cf rfl ?_)); (first | (refine GQ.a ?_; refine Q.al ?_; exact hk.x) | exact hk.x)) : A := h ⟨hk⟩
theorem rdn {A B : Prop} (hk : B) (h : W B → A := by intro hk; (repeat (first | (refine opsS_nil ?_; refine N.tn ?_) | refine Q.dyn rfl rfl rfl ?_ | refine Q.dyl rfl rfl rfl ?_ | refine D.endA ?_ | refine Q.dp rfl rfl rfl ?_ | refine Q.dy rfl rfl rfl ?_ | refine D.end_ ?_ | refine Q.endH ?_ | (refine D.e rfl rfl rfl ?_; (first | refine S.gskip1 rfl ?_ | refine S.gskip rfl ?_ | refine S.y (Y.gskipU rfl) ?_); refine opsS_nil ?_; refine N.tn ?_) | refine Q.dT rfl rfl rfl ?_ | refine Q.dF rfl rfl rfl ?_ | (refine D.e rfl rfl rfl ?_; (refine GQ.s ?_; refine Q.st ?_); refine opsS_nil ?_; refine N.tn ?_))); (first | (refine D.e rfl rfl rfl ?_; refine GQ.a ?_; refine Q.al ?_; exact hk.x) | exact hk.x)) : A := h ⟨hk⟩
end Q
end Go.SX
namespace Go.SX
open Go
section
variable {P : Program} {n : Nat} {ops rest : List Oper} {Q : Post} {f : Env} {A L : List HP} {d : Tmp} {ty : TypeId} {pos : String} {af : Array Edge}
theorem Y.ldRj {x : Operand} {t : TypeId} {sz bts : Nat} {zs : List Value} {b o j : Nat} {v : Value} {cs : List Value} [h : Ty P t false sz zs bts] (hx : ev f x = some (.pointer (some ⟨b, o + j, none⟩))) (hr : RdC A b o cs) (hj : cs[j]? = some v) : YieldS P n ops ⟨some d, .load t x, ty, pos, af, none⟩ f A v :=
  Y.ldR hx (hr.at hj)
theorem Y.shr {x y : Operand} {t t' : TypeId} {k k' : IntKind} {a b : Nat} (hx : ev f x = some (.int k (a : Int))) (hy : ev f y = some (.int k' (b : Int))) (hb : b ≤ k.bits) : YieldS P n ops ⟨some d, .binOp .shr t x y t', ty, pos, af, none⟩ f A (.int k ((a / 2 ^ b : Nat) : Int)) :=
  Y.of (fun _ w s => by
    have e1 : ¬ ((b : Int) < 0) := by omega
    have e2 : Min.min b k.bits = b := Nat.min_eq_left hb
    have e3 : (a : Int).fdiv (2 ^ b) = ((a / 2 ^ b : Nat) : Int) := by
      rw [Int.fdiv_eq_ediv_of_nonneg _ (by exact_mod_cast Nat.zero_le _)]; norm_cast
    simp [execOp, s.eval hx, s.eval hy, eqGuard, binOp, Op.shift, e1, e2, e3])
theorem Y.shl {x y : Operand} {t t' : TypeId} {k k' : IntKind} {a b : Nat} (hx : ev f x = some (.int k (a : Int))) (hy : ev f y = some (.int k' (b : Int))) (hb : b ≤ k.bits) : YieldS P n ops ⟨some d, .binOp .shl t x y t', ty, pos, af, none⟩ f A (.int k (k.wrap ((a * 2 ^ b : Nat) : Int))) :=
  Y.of (fun _ w s => by
    have e1 : ¬ ((b : Int) < 0) := by omega
    have e2 : Min.min b k.bits = b := Nat.min_eq_left hb
    have e3 : (a : Int) * 2 ^ b = ((a * 2 ^ b : Nat) : Int) := by norm_cast
    have e4 : (Op.shift .shl k (a : Int) k' (b : Int)).run P w = .ok (.int k (k.wrap ((a * 2 ^ b : Nat) : Int))) w := by
      unfold Op.shift
      rw [if_neg e1]
      simp only [Int.toNat_natCast, e2, e3, Sem.run_pure]
    simp [execOp, s.eval hx, s.eval hy, eqGuard, binOp, e4])
theorem Y.and {x y : Operand} {t t' : TypeId} {k : IntKind} {a b : Int} (hx : ev f x = some (.int k a)) (hy : ev f y = some (.int k b)) : YieldS P n ops ⟨some d, .binOp .and t x y t', ty, pos, af, none⟩ f A ((.int k (k.wrap ((BitVec.ofInt k.bits a) &&& (BitVec.ofInt k.bits b)).toNat))) :=  Y.of (fun _ w s => by simp [execOp, s.eval hx, s.eval hy, eqGuard, binOp, Op.intBits])
theorem Y.idx {x y : Operand} {t : TypeId} {k : IntKind} {s0 : ByteArray} {i : Nat} {b : UInt8} [h : StrTy P t] (hx : ev f x = some (.string s0)) (hy : ev f y = some (.int k (i : Int))) (hb : s0[i]? = some b) : YieldS P n ops ⟨some d, .index t x y, ty, pos, af, none⟩ f A (.int .u8 b.toNat) :=
  Y.of (fun _ w s => by simp [execOp, s.eval hx, s.eval hy, Instr.index, asIntOf, h.und, hb])
end
theorem opsS_mono {P : Program} {n : Nat} {ops rest : List Oper} {Q Q' : Post} {f : Env} {L : List HP} (h : opsS P n ops rest Q f L) (hq : ∀ e f L, Q e f L → Q' e f L) : opsS P n ops rest Q' f L :=
  fun ok F a w s t => wpList_mono (h ok F a w s t) fun _ _ _ ⟨f, L, s, t, q⟩ => ⟨f, L, s, t, hq _ _ _ q⟩
theorem opsS_cutT {P : Program} {n : Nat} {ops rest : List Oper} {y : Code} {Q : Post} {f : Env} {L : List HP} {σ : Type} (sl : σ → List (Nat × Value)) (H : σ → List HP) (φ : σ → Prop)
    (h : opsS P n ops rest (thenS (fun f L => ∃ s, slots f (sl s) ∧ Ent L (H s) ∧ φ s) Q) f L)
    (hk : ∀ s, φ s → swp P n y Q (updAll (sl s)) (H s)) : opsS P n ops rest (thenS (fun f L => swp P n y Q f L) Q) f L := by
  refine opsS_mono h ?_
  intro e f L q
  cases e <;> first | exact q | (obtain ⟨s, h1, h2, h3⟩ := q; exact swp_keep _ h1 (swp_ent h2 (hk s h3)))
theorem xor64 (a b : UInt64) : IntKind.u64.wrap (((BitVec.ofInt IntKind.u64.bits (a.toNat : Int)) ^^^ (BitVec.ofInt IntKind.u64.bits (b.toNat : Int))).toNat : Int) = ((a ^^^ b).toNat : Int) := by
  have e : ∀ x : UInt64, BitVec.ofInt 64 (x.toNat : Int) = x.toBitVec := fun x => by
    apply BitVec.eq_of_toNat_eq
    have := x.toNat_lt
    simp
  have h := (a ^^^ b).toNat_lt
  show IntKind.u64.wrap (((BitVec.ofInt 64 (a.toNat : Int)) ^^^ (BitVec.ofInt 64 (b.toNat : Int))).toNat : Int) = _
  rw [e, e, show (a.toBitVec ^^^ b.toBitVec).toNat = (a ^^^ b).toNat from rfl]
  exact wrap_u64 (by omega) (by omega)
theorem shl64 (a : UInt64) (k : Nat) (hk : k < 64) : IntKind.u64.wrap ((a.toNat * 2 ^ k : Nat) : Int) = ((a <<< (UInt64.ofNat k)).toNat : Int) := by
  rw [IntKind.wrap_u64]
  simp [UInt64.toNat_shiftLeft, Nat.mod_eq_of_lt hk, Nat.shiftLeft_eq]
theorem shr64 (a : UInt64) (k : Nat) (hk : k < 64) : ((a.toNat / 2 ^ k : Nat) : Int) = ((a >>> (UInt64.ofNat k)).toNat : Int) := by
  have e1 : (UInt64.ofNat k).toNat % 64 = k := by simp; omega
  rw [UInt64.toNat_shiftRight, e1, Nat.shiftRight_eq_div_pow]
theorem and64 (a b : Nat) (ha : a < 18446744073709551616) (hb : b < 18446744073709551616) : IntKind.u64.wrap (((BitVec.ofInt IntKind.u64.bits (a : Int)) &&& (BitVec.ofInt IntKind.u64.bits (b : Int))).toNat : Int) = ((a &&& b : Nat) : Int) := by
  have e : ∀ x : Nat, x < 18446744073709551616 → (BitVec.ofInt 64 (x : Int)).toNat = x := fun x hx => by simp; omega
  show IntKind.u64.wrap (((BitVec.ofInt 64 (a : Int)) &&& (BitVec.ofInt 64 (b : Int))).toNat : Int) = _
  rw [BitVec.toNat_and, e _ ha, e _ hb]
  have : a &&& b ≤ a := Nat.and_le_left
  exact wrap_u64 (by omega) (by omega)
theorem bitsLen_shift {x k : Nat} (h : 2 ^ k ≤ x) : Sort.bitsLen x = k + Sort.bitsLen (x / 2 ^ k) := by
  unfold Sort.bitsLen
  have hp : 0 < 2 ^ k := Nat.two_pow_pos k
  have h1 : ¬ x = 0 := by omega
  have h2 : ¬ x / 2 ^ k = 0 := by
    have := Nat.div_pos h hp; omega
  rw [if_neg h1, if_neg h2]
  have hlog : Nat.log2 (x / 2 ^ k) = Nat.log2 x - k := by
    have hge : k ≤ Nat.log2 x := (Nat.le_log2 h1).2 h
    refine (Nat.log2_eq_iff h2).2 ⟨?_, ?_⟩
    · rw [Nat.le_div_iff_mul_le hp, ← Nat.pow_add, Nat.sub_add_cancel hge]
      exact Nat.log2_self_le h1
    · rw [Nat.div_lt_iff_lt_mul hp, ← Nat.pow_add, show Nat.log2 x - k + 1 + k = Nat.log2 x + 1 by omega]
      exact Nat.lt_log2_self
  have hge : k ≤ Nat.log2 x := (Nat.le_log2 h1).2 h
  omega
end Go.SX
namespace Go.Proofs.YtiampehfpgcogaaDoor
open Go Go.SX
attribute [local irreducible] swp opsS thenS blockS retS CallsS St Ent YieldS anyS drawS
abbrev VL := List (Int × List Int)
def okR (M : Nat → Option Obj) (ovs : List OV) : Prop := ∀ o ∈ ovs, SlM M o.a o.vec.length 1 (o.vec.map I32)
def lastS (vs : VL) : Int := ((vs.getLast?).map (·.1)).getD 0
def aftN (vs : VL) (st : Int) : Nat := (vs.filter fun v => decide (v.1 ≤ st)).length
end Go.Proofs.YtiampehfpgcogaaDoor
namespace Go.Proofs.YtiampehfpgcogaaDoor
open Go Go.SX
attribute [local irreducible] swp opsS thenS blockS retS CallsS St Ent YieldS anyS drawS
def sortedV (vs : VL) : Prop := (vs.map (·.1)).Pairwise (· < ·)
end Go.Proofs.YtiampehfpgcogaaDoor
namespace Go.Proofs.YtiampehfpgcogaaDoor
open Go Go.SX
attribute [local irreducible] swp opsS thenS blockS retS CallsS St Ent YieldS anyS drawS
section
variable {n : Nat} {ops rest : List Oper} {cd : Code} {Q : Post} {f : Env} {L L0 : List HP} {M : Nat → Option Obj} {vs : VL}
end
end Go.Proofs.YtiampehfpgcogaaDoor
