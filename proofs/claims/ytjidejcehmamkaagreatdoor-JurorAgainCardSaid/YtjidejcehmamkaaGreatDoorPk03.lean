/- Facts on the types of the program, one by one.  By a program (wip/gen/gsa.py). No condition. -/
import Derived.Test.YtjidejcehmamkaaGreatDoorProg
import Derived.KernelRfl
import Derived.Test.YtjidejcehmamkaaGreatDoorPk02
set_option linter.unusedVariables false
set_option linter.unusedSimpArgs false
set_option linter.unusedSectionVars false
namespace Go.Proofs.YtjidejcehmamkaaGreatDoor
open Go Go.SX
instance hu0 : HasUnd Tryz.prog 0 := ⟨_, Tryz.runUnderlying0⟩
instance ty1 : Ty Tryz.prog 1 false 1 [.nilFunc] 8 := ⟨⟨Tryz.t1, _, by kernel_rfl, rfl, rfl, rfl, rfl⟩, Tryz.isAgg1, Tryz.sizeOf1, ⟨_, Tryz.zeroValue1, rfl⟩, ⟨_, Tryz.typeInfo1, rfl⟩⟩
instance hu1 : HasUnd Tryz.prog 1 := ⟨_, Tryz.runUnderlying1⟩
instance ty2 : Ty Tryz.prog 2 false 1 [.int .i64 0] 8 := ⟨⟨Tryz.t2, _, by kernel_rfl, rfl, rfl, rfl, rfl⟩, Tryz.isAgg2, Tryz.sizeOf2, ⟨_, Tryz.zeroValue2, rfl⟩, ⟨_, Tryz.typeInfo2, rfl⟩⟩
instance hu2 : HasUnd Tryz.prog 2 := ⟨_, Tryz.runUnderlying2⟩
instance it2 : IntTy Tryz.prog 2 .i64 := ⟨Tryz.runUnderlying2, Tryz.underlying2⟩
instance ty3 : Ty Tryz.prog 3 false 1 [.int .i64 0] 8 := ⟨⟨Tryz.t3, _, by kernel_rfl, rfl, rfl, rfl, rfl⟩, Tryz.isAgg3, Tryz.sizeOf3, ⟨_, Tryz.zeroValue3, rfl⟩, ⟨_, Tryz.typeInfo3, rfl⟩⟩
instance hu3 : HasUnd Tryz.prog 3 := ⟨_, Tryz.runUnderlying3⟩
instance it3 : IntTy Tryz.prog 3 .i64 := ⟨Tryz.runUnderlying3, Tryz.underlying3⟩
instance ty4 : Ty Tryz.prog 4 false 1 [.bool false] 1 := ⟨⟨Tryz.t4, _, by kernel_rfl, rfl, rfl, rfl, rfl⟩, Tryz.isAgg4, Tryz.sizeOf4, ⟨_, Tryz.zeroValue4, rfl⟩, ⟨_, Tryz.typeInfo4, rfl⟩⟩
instance hu4 : HasUnd Tryz.prog 4 := ⟨_, Tryz.runUnderlying4⟩
instance bt4 : BoolTy Tryz.prog 4 := ⟨Tryz.underlying4⟩
instance ty5 : Ty Tryz.prog 5 false 1 [.int .u8 0] 1 := ⟨⟨Tryz.t5, _, by kernel_rfl, rfl, rfl, rfl, rfl⟩, Tryz.isAgg5, Tryz.sizeOf5, ⟨_, Tryz.zeroValue5, rfl⟩, ⟨_, Tryz.typeInfo5, rfl⟩⟩
instance hu5 : HasUnd Tryz.prog 5 := ⟨_, Tryz.runUnderlying5⟩
instance it5 : IntTy Tryz.prog 5 .u8 := ⟨Tryz.runUnderlying5, Tryz.underlying5⟩
instance ty6 : Ty Tryz.prog 6 false 1 [.int .u8 0] 1 := ⟨⟨Tryz.t6, _, by kernel_rfl, rfl, rfl, rfl, rfl⟩, Tryz.isAgg6, Tryz.sizeOf6, ⟨_, Tryz.zeroValue6, rfl⟩, ⟨_, Tryz.typeInfo6, rfl⟩⟩
instance hu6 : HasUnd Tryz.prog 6 := ⟨_, Tryz.runUnderlying6⟩
instance it6 : IntTy Tryz.prog 6 .u8 := ⟨Tryz.runUnderlying6, Tryz.underlying6⟩
instance ty7 : Ty Tryz.prog 7 true 4 [.int .i64 0, .int .i64 0, .bool false, .int .u8 0] 24 := ⟨⟨Tryz.t7, _, by kernel_rfl, rfl, rfl, rfl, rfl⟩, Tryz.isAgg7, Tryz.sizeOf7, ⟨_, Tryz.zeroValue7, rfl⟩, ⟨_, Tryz.typeInfo7, rfl⟩⟩
instance hu7 : HasUnd Tryz.prog 7 := ⟨_, Tryz.runUnderlying7⟩
instance ss7 : StTy Tryz.prog 7 [(0, 1, false), (1, 1, false), (2, 1, false), (3, 1, false)] := ⟨_, Tryz.runUnderlying7, rfl, fun i off sz ag h => match i, h with
  | 0, h => by simp only [List.getElem?_cons_zero, List.getElem?_cons_succ, Option.some.injEq, Prod.mk.injEq] at h; obtain ⟨rfl, rfl, rfl⟩ := h; exact ⟨_, rfl, rfl, Tryz.sizeOf2, Tryz.isAgg2⟩
  | 1, h => by simp only [List.getElem?_cons_zero, List.getElem?_cons_succ, Option.some.injEq, Prod.mk.injEq] at h; obtain ⟨rfl, rfl, rfl⟩ := h; exact ⟨_, rfl, rfl, Tryz.sizeOf3, Tryz.isAgg3⟩
  | 2, h => by simp only [List.getElem?_cons_zero, List.getElem?_cons_succ, Option.some.injEq, Prod.mk.injEq] at h; obtain ⟨rfl, rfl, rfl⟩ := h; exact ⟨_, rfl, rfl, Tryz.sizeOf4, Tryz.isAgg4⟩
  | 3, h => by simp only [List.getElem?_cons_zero, List.getElem?_cons_succ, Option.some.injEq, Prod.mk.injEq] at h; obtain ⟨rfl, rfl, rfl⟩ := h; exact ⟨_, rfl, rfl, Tryz.sizeOf6, Tryz.isAgg6⟩
  | (i + 4), h => by simp at h⟩
instance ty8 : Ty Tryz.prog 8 true 4 [.int .i64 0, .int .i64 0, .bool false, .int .u8 0] 24 := ⟨⟨Tryz.t8, _, by kernel_rfl, rfl, rfl, rfl, rfl⟩, Tryz.isAgg8, Tryz.sizeOf8, ⟨_, Tryz.zeroValue8, rfl⟩, ⟨_, Tryz.typeInfo8, rfl⟩⟩
instance hu8 : HasUnd Tryz.prog 8 := ⟨_, Tryz.runUnderlying8⟩
instance ss8 : StTy Tryz.prog 8 [(0, 1, false), (1, 1, false), (2, 1, false), (3, 1, false)] := ⟨_, Tryz.runUnderlying8, rfl, fun i off sz ag h => match i, h with
  | 0, h => by simp only [List.getElem?_cons_zero, List.getElem?_cons_succ, Option.some.injEq, Prod.mk.injEq] at h; obtain ⟨rfl, rfl, rfl⟩ := h; exact ⟨_, rfl, rfl, Tryz.sizeOf2, Tryz.isAgg2⟩
  | 1, h => by simp only [List.getElem?_cons_zero, List.getElem?_cons_succ, Option.some.injEq, Prod.mk.injEq] at h; obtain ⟨rfl, rfl, rfl⟩ := h; exact ⟨_, rfl, rfl, Tryz.sizeOf3, Tryz.isAgg3⟩
  | 2, h => by simp only [List.getElem?_cons_zero, List.getElem?_cons_succ, Option.some.injEq, Prod.mk.injEq] at h; obtain ⟨rfl, rfl, rfl⟩ := h; exact ⟨_, rfl, rfl, Tryz.sizeOf4, Tryz.isAgg4⟩
  | 3, h => by simp only [List.getElem?_cons_zero, List.getElem?_cons_succ, Option.some.injEq, Prod.mk.injEq] at h; obtain ⟨rfl, rfl, rfl⟩ := h; exact ⟨_, rfl, rfl, Tryz.sizeOf6, Tryz.isAgg6⟩
  | (i + 4), h => by simp at h⟩
instance ty9 : Ty Tryz.prog 9 false 1 [.string ⟨#[]⟩] 16 := ⟨⟨Tryz.t9, _, by kernel_rfl, rfl, rfl, rfl, rfl⟩, Tryz.isAgg9, Tryz.sizeOf9, ⟨_, Tryz.zeroValue9, rfl⟩, ⟨_, Tryz.typeInfo9, rfl⟩⟩
instance hu9 : HasUnd Tryz.prog 9 := ⟨_, Tryz.runUnderlying9⟩
instance st9 : StrTy Tryz.prog 9 := ⟨Tryz.runUnderlying9, Tryz.underlying9⟩
instance ty10 : Ty Tryz.prog 10 false 1 [.string ⟨#[]⟩] 16 := ⟨⟨Tryz.t10, _, by kernel_rfl, rfl, rfl, rfl, rfl⟩, Tryz.isAgg10, Tryz.sizeOf10, ⟨_, Tryz.zeroValue10, rfl⟩, ⟨_, Tryz.typeInfo10, rfl⟩⟩
instance hu10 : HasUnd Tryz.prog 10 := ⟨_, Tryz.runUnderlying10⟩
instance st10 : StrTy Tryz.prog 10 := ⟨Tryz.runUnderlying10, Tryz.underlying10⟩
instance ty11 : Ty Tryz.prog 11 false 1 [.string ⟨#[]⟩] 16 := ⟨⟨Tryz.t11, _, by kernel_rfl, rfl, rfl, rfl, rfl⟩, Tryz.isAgg11, Tryz.sizeOf11, ⟨_, Tryz.zeroValue11, rfl⟩, ⟨_, Tryz.typeInfo11, rfl⟩⟩
instance hu11 : HasUnd Tryz.prog 11 := ⟨_, Tryz.runUnderlying11⟩
instance st11 : StrTy Tryz.prog 11 := ⟨Tryz.runUnderlying11, Tryz.underlying11⟩
instance ty12 : Ty Tryz.prog 12 false 1 [.int .u64 0] 8 := ⟨⟨Tryz.t12, _, by kernel_rfl, rfl, rfl, rfl, rfl⟩, Tryz.isAgg12, Tryz.sizeOf12, ⟨_, Tryz.zeroValue12, rfl⟩, ⟨_, Tryz.typeInfo12, rfl⟩⟩
instance hu12 : HasUnd Tryz.prog 12 := ⟨_, Tryz.runUnderlying12⟩
instance it12 : IntTy Tryz.prog 12 .u64 := ⟨Tryz.runUnderlying12, Tryz.underlying12⟩
instance ty13 : Ty Tryz.prog 13 true 2 [.string ⟨#[]⟩, .int .u64 0] 24 := ⟨⟨Tryz.t13, _, by kernel_rfl, rfl, rfl, rfl, rfl⟩, Tryz.isAgg13, Tryz.sizeOf13, ⟨_, Tryz.zeroValue13, rfl⟩, ⟨_, Tryz.typeInfo13, rfl⟩⟩
instance hu13 : HasUnd Tryz.prog 13 := ⟨_, Tryz.runUnderlying13⟩
instance ss13 : StTy Tryz.prog 13 [(0, 1, false), (1, 1, false)] := ⟨_, Tryz.runUnderlying13, rfl, fun i off sz ag h => match i, h with
  | 0, h => by simp only [List.getElem?_cons_zero, List.getElem?_cons_succ, Option.some.injEq, Prod.mk.injEq] at h; obtain ⟨rfl, rfl, rfl⟩ := h; exact ⟨_, rfl, rfl, Tryz.sizeOf9, Tryz.isAgg9⟩
  | 1, h => by simp only [List.getElem?_cons_zero, List.getElem?_cons_succ, Option.some.injEq, Prod.mk.injEq] at h; obtain ⟨rfl, rfl, rfl⟩ := h; exact ⟨_, rfl, rfl, Tryz.sizeOf12, Tryz.isAgg12⟩
  | (i + 2), h => by simp at h⟩
instance ty14 : Ty Tryz.prog 14 true 2 [.string ⟨#[]⟩, .int .u64 0] 24 := ⟨⟨Tryz.t14, _, by kernel_rfl, rfl, rfl, rfl, rfl⟩, Tryz.isAgg14, Tryz.sizeOf14, ⟨_, Tryz.zeroValue14, rfl⟩, ⟨_, Tryz.typeInfo14, rfl⟩⟩
instance hu14 : HasUnd Tryz.prog 14 := ⟨_, Tryz.runUnderlying14⟩
instance ss14 : StTy Tryz.prog 14 [(0, 1, false), (1, 1, false)] := ⟨_, Tryz.runUnderlying14, rfl, fun i off sz ag h => match i, h with
  | 0, h => by simp only [List.getElem?_cons_zero, List.getElem?_cons_succ, Option.some.injEq, Prod.mk.injEq] at h; obtain ⟨rfl, rfl, rfl⟩ := h; exact ⟨_, rfl, rfl, Tryz.sizeOf9, Tryz.isAgg9⟩
  | 1, h => by simp only [List.getElem?_cons_zero, List.getElem?_cons_succ, Option.some.injEq, Prod.mk.injEq] at h; obtain ⟨rfl, rfl, rfl⟩ := h; exact ⟨_, rfl, rfl, Tryz.sizeOf12, Tryz.isAgg12⟩
  | (i + 2), h => by simp at h⟩
instance ty15 : Ty Tryz.prog 15 false 1 [.pointer none] 8 := ⟨⟨Tryz.t15, _, by kernel_rfl, rfl, rfl, rfl, rfl⟩, Tryz.isAgg15, Tryz.sizeOf15, ⟨_, Tryz.zeroValue15, rfl⟩, ⟨_, Tryz.typeInfo15, rfl⟩⟩
instance hu15 : HasUnd Tryz.prog 15 := ⟨_, Tryz.runUnderlying15⟩
instance pt15 : PtrTy Tryz.prog 15 308 := ⟨Tryz.runUnderlying15, Tryz.underlying15⟩
instance ty16 : Ty Tryz.prog 16 false 1 [.pointer none] 8 := ⟨⟨Tryz.t16, _, by kernel_rfl, rfl, rfl, rfl, rfl⟩, Tryz.isAgg16, Tryz.sizeOf16, ⟨_, Tryz.zeroValue16, rfl⟩, ⟨_, Tryz.typeInfo16, rfl⟩⟩
instance hu16 : HasUnd Tryz.prog 16 := ⟨_, Tryz.runUnderlying16⟩
instance pt16 : PtrTy Tryz.prog 16 311 := ⟨Tryz.runUnderlying16, Tryz.underlying16⟩
instance ty17 : Ty Tryz.prog 17 false 1 [.pointer none] 8 := ⟨⟨Tryz.t17, _, by kernel_rfl, rfl, rfl, rfl, rfl⟩, Tryz.isAgg17, Tryz.sizeOf17, ⟨_, Tryz.zeroValue17, rfl⟩, ⟨_, Tryz.typeInfo17, rfl⟩⟩
instance hu17 : HasUnd Tryz.prog 17 := ⟨_, Tryz.runUnderlying17⟩
instance pt17 : PtrTy Tryz.prog 17 319 := ⟨Tryz.runUnderlying17, Tryz.underlying17⟩
instance ty18 : Ty Tryz.prog 18 true 1 [.pointer none] 8 := ⟨⟨Tryz.t18, _, by kernel_rfl, rfl, rfl, rfl, rfl⟩, Tryz.isAgg18, Tryz.sizeOf18, ⟨_, Tryz.zeroValue18, rfl⟩, ⟨_, Tryz.typeInfo18, rfl⟩⟩
instance hu18 : HasUnd Tryz.prog 18 := ⟨_, Tryz.runUnderlying18⟩
instance ss18 : StTy Tryz.prog 18 [(0, 1, false)] := ⟨_, Tryz.runUnderlying18, rfl, fun i off sz ag h => match i, h with
  | 0, h => by simp only [List.getElem?_cons_zero, List.getElem?_cons_succ, Option.some.injEq, Prod.mk.injEq] at h; obtain ⟨rfl, rfl, rfl⟩ := h; exact ⟨_, rfl, rfl, Tryz.sizeOf17, Tryz.isAgg17⟩
  | (i + 1), h => by simp at h⟩
instance ty19 : Ty Tryz.prog 19 true 1 [.pointer none] 8 := ⟨⟨Tryz.t19, _, by kernel_rfl, rfl, rfl, rfl, rfl⟩, Tryz.isAgg19, Tryz.sizeOf19, ⟨_, Tryz.zeroValue19, rfl⟩, ⟨_, Tryz.typeInfo19, rfl⟩⟩
instance hu19 : HasUnd Tryz.prog 19 := ⟨_, Tryz.runUnderlying19⟩
instance ss19 : StTy Tryz.prog 19 [(0, 1, false)] := ⟨_, Tryz.runUnderlying19, rfl, fun i off sz ag h => match i, h with
  | 0, h => by simp only [List.getElem?_cons_zero, List.getElem?_cons_succ, Option.some.injEq, Prod.mk.injEq] at h; obtain ⟨rfl, rfl, rfl⟩ := h; exact ⟨_, rfl, rfl, Tryz.sizeOf17, Tryz.isAgg17⟩
  | (i + 1), h => by simp at h⟩
instance ty20 : Ty Tryz.prog 20 false 1 [.nilIface] 16 := ⟨⟨Tryz.t20, _, by kernel_rfl, rfl, rfl, rfl, rfl⟩, Tryz.isAgg20, Tryz.sizeOf20, ⟨_, Tryz.zeroValue20, rfl⟩, ⟨_, Tryz.typeInfo20, rfl⟩⟩
instance hu20 : HasUnd Tryz.prog 20 := ⟨_, Tryz.runUnderlying20⟩
instance ty21 : Ty Tryz.prog 21 false 1 [.int .i32 0] 4 := ⟨⟨Tryz.t21, _, by kernel_rfl, rfl, rfl, rfl, rfl⟩, Tryz.isAgg21, Tryz.sizeOf21, ⟨_, Tryz.zeroValue21, rfl⟩, ⟨_, Tryz.typeInfo21, rfl⟩⟩
instance hu21 : HasUnd Tryz.prog 21 := ⟨_, Tryz.runUnderlying21⟩
instance it21 : IntTy Tryz.prog 21 .i32 := ⟨Tryz.runUnderlying21, Tryz.underlying21⟩
instance ty22 : Ty Tryz.prog 22 false 1 [.slice none 0 0] 24 := ⟨⟨Tryz.t22, _, by kernel_rfl, rfl, rfl, rfl, rfl⟩, Tryz.isAgg22, Tryz.sizeOf22, ⟨_, Tryz.zeroValue22, rfl⟩, ⟨_, Tryz.typeInfo22, rfl⟩⟩
instance hu22 : HasUnd Tryz.prog 22 := ⟨_, Tryz.runUnderlying22⟩
instance sl22 : SlTy Tryz.prog 22 38 := ⟨Tryz.runUnderlying22, Tryz.underlying22⟩
instance ty23 : Ty Tryz.prog 23 false 1 [.nilFunc] 8 := ⟨⟨Tryz.t23, _, by kernel_rfl, rfl, rfl, rfl, rfl⟩, Tryz.isAgg23, Tryz.sizeOf23, ⟨_, Tryz.zeroValue23, rfl⟩, ⟨_, Tryz.typeInfo23, rfl⟩⟩
instance hu23 : HasUnd Tryz.prog 23 := ⟨_, Tryz.runUnderlying23⟩
instance ty24 : Ty Tryz.prog 24 false 1 [.pointer none] 8 := ⟨⟨Tryz.t24, _, by kernel_rfl, rfl, rfl, rfl, rfl⟩, Tryz.isAgg24, Tryz.sizeOf24, ⟨_, Tryz.zeroValue24, rfl⟩, ⟨_, Tryz.typeInfo24, rfl⟩⟩
instance hu24 : HasUnd Tryz.prog 24 := ⟨_, Tryz.runUnderlying24⟩
instance pt24 : PtrTy Tryz.prog 24 83 := ⟨Tryz.runUnderlying24, Tryz.underlying24⟩
instance ty25 : Ty Tryz.prog 25 false 1 [.int .i64 0] 8 := ⟨⟨Tryz.t25, _, by kernel_rfl, rfl, rfl, rfl, rfl⟩, Tryz.isAgg25, Tryz.sizeOf25, ⟨_, Tryz.zeroValue25, rfl⟩, ⟨_, Tryz.typeInfo25, rfl⟩⟩
instance hu25 : HasUnd Tryz.prog 25 := ⟨_, Tryz.runUnderlying25⟩
instance it25 : IntTy Tryz.prog 25 .i64 := ⟨Tryz.runUnderlying25, Tryz.underlying25⟩
instance hu26 : HasUnd Tryz.prog 26 := ⟨_, Tryz.runUnderlying26⟩
instance ty27 : Ty Tryz.prog 27 false 1 [.nilFunc] 8 := ⟨⟨Tryz.t27, _, by kernel_rfl, rfl, rfl, rfl, rfl⟩, Tryz.isAgg27, Tryz.sizeOf27, ⟨_, Tryz.zeroValue27, rfl⟩, ⟨_, Tryz.typeInfo27, rfl⟩⟩
instance hu27 : HasUnd Tryz.prog 27 := ⟨_, Tryz.runUnderlying27⟩
instance ty28 : Ty Tryz.prog 28 false 1 [.pointer none] 8 := ⟨⟨Tryz.t28, _, by kernel_rfl, rfl, rfl, rfl, rfl⟩, Tryz.isAgg28, Tryz.sizeOf28, ⟨_, Tryz.zeroValue28, rfl⟩, ⟨_, Tryz.typeInfo28, rfl⟩⟩
instance hu28 : HasUnd Tryz.prog 28 := ⟨_, Tryz.runUnderlying28⟩
instance pt28 : PtrTy Tryz.prog 28 92 := ⟨Tryz.runUnderlying28, Tryz.underlying28⟩
instance ty29 : Ty Tryz.prog 29 false 1 [.nilFunc] 8 := ⟨⟨Tryz.t29, _, by kernel_rfl, rfl, rfl, rfl, rfl⟩, Tryz.isAgg29, Tryz.sizeOf29, ⟨_, Tryz.zeroValue29, rfl⟩, ⟨_, Tryz.typeInfo29, rfl⟩⟩
instance hu29 : HasUnd Tryz.prog 29 := ⟨_, Tryz.runUnderlying29⟩
instance ty30 : Ty Tryz.prog 30 false 1 [.int .u64 0] 8 := ⟨⟨Tryz.t30, _, by kernel_rfl, rfl, rfl, rfl, rfl⟩, Tryz.isAgg30, Tryz.sizeOf30, ⟨_, Tryz.zeroValue30, rfl⟩, ⟨_, Tryz.typeInfo30, rfl⟩⟩
instance hu30 : HasUnd Tryz.prog 30 := ⟨_, Tryz.runUnderlying30⟩
instance it30 : IntTy Tryz.prog 30 .u64 := ⟨Tryz.runUnderlying30, Tryz.underlying30⟩
instance ty31 : Ty Tryz.prog 31 false 1 [.slice none 0 0] 24 := ⟨⟨Tryz.t31, _, by kernel_rfl, rfl, rfl, rfl, rfl⟩, Tryz.isAgg31, Tryz.sizeOf31, ⟨_, Tryz.zeroValue31, rfl⟩, ⟨_, Tryz.typeInfo31, rfl⟩⟩
instance hu31 : HasUnd Tryz.prog 31 := ⟨_, Tryz.runUnderlying31⟩
instance sl31 : SlTy Tryz.prog 31 3 := ⟨Tryz.runUnderlying31, Tryz.underlying31⟩
instance ty32 : Ty Tryz.prog 32 false 1 [.slice none 0 0] 24 := ⟨⟨Tryz.t32, _, by kernel_rfl, rfl, rfl, rfl, rfl⟩, Tryz.isAgg32, Tryz.sizeOf32, ⟨_, Tryz.zeroValue32, rfl⟩, ⟨_, Tryz.typeInfo32, rfl⟩⟩
instance hu32 : HasUnd Tryz.prog 32 := ⟨_, Tryz.runUnderlying32⟩
instance sl32 : SlTy Tryz.prog 32 46 := ⟨Tryz.runUnderlying32, Tryz.underlying32⟩
instance ty33 : Ty Tryz.prog 33 false 1 [.slice none 0 0] 24 := ⟨⟨Tryz.t33, _, by kernel_rfl, rfl, rfl, rfl, rfl⟩, Tryz.isAgg33, Tryz.sizeOf33, ⟨_, Tryz.zeroValue33, rfl⟩, ⟨_, Tryz.typeInfo33, rfl⟩⟩
instance hu33 : HasUnd Tryz.prog 33 := ⟨_, Tryz.runUnderlying33⟩
instance sl33 : SlTy Tryz.prog 33 21 := ⟨Tryz.runUnderlying33, Tryz.underlying33⟩
instance ty34 : Ty Tryz.prog 34 false 1 [.slice none 0 0] 24 := ⟨⟨Tryz.t34, _, by kernel_rfl, rfl, rfl, rfl, rfl⟩, Tryz.isAgg34, Tryz.sizeOf34, ⟨_, Tryz.zeroValue34, rfl⟩, ⟨_, Tryz.typeInfo34, rfl⟩⟩
instance hu34 : HasUnd Tryz.prog 34 := ⟨_, Tryz.runUnderlying34⟩
instance sl34 : SlTy Tryz.prog 34 118 := ⟨Tryz.runUnderlying34, Tryz.underlying34⟩
instance ty35 : Ty Tryz.prog 35 true 16 [.int .u8 0, .int .u64 0, .int .u64 0, .int .u64 0, .int .u64 0, .int .u64 0, .int .u64 0, .int .u64 0, .int .i64 0, .int .i64 0, .int .i64 0, .int .i64 0, .slice none 0 0, .slice none 0 0, .slice none 0 0, .slice none 0 0] 192 := ⟨⟨Tryz.t35, _, by kernel_rfl, rfl, rfl, rfl, rfl⟩, Tryz.isAgg35, Tryz.sizeOf35, ⟨_, Tryz.zeroValue35, rfl⟩, ⟨_, Tryz.typeInfo35, rfl⟩⟩
instance hu35 : HasUnd Tryz.prog 35 := ⟨_, Tryz.runUnderlying35⟩
instance ss35 : StTy Tryz.prog 35 [(0, 1, false), (1, 1, false), (2, 1, false), (3, 1, false), (4, 1, false), (5, 1, false), (6, 1, false), (7, 1, false), (8, 1, false), (9, 1, false), (10, 1, false), (11, 1, false), (12, 1, false), (13, 1, false), (14, 1, false), (15, 1, false)] := ⟨_, Tryz.runUnderlying35, rfl, fun i off sz ag h => match i, h with
  | 0, h => by simp only [List.getElem?_cons_zero, List.getElem?_cons_succ, Option.some.injEq, Prod.mk.injEq] at h; obtain ⟨rfl, rfl, rfl⟩ := h; exact ⟨_, rfl, rfl, Tryz.sizeOf5, Tryz.isAgg5⟩
  | 1, h => by simp only [List.getElem?_cons_zero, List.getElem?_cons_succ, Option.some.injEq, Prod.mk.injEq] at h; obtain ⟨rfl, rfl, rfl⟩ := h; exact ⟨_, rfl, rfl, Tryz.sizeOf30, Tryz.isAgg30⟩
  | 2, h => by simp only [List.getElem?_cons_zero, List.getElem?_cons_succ, Option.some.injEq, Prod.mk.injEq] at h; obtain ⟨rfl, rfl, rfl⟩ := h; exact ⟨_, rfl, rfl, Tryz.sizeOf30, Tryz.isAgg30⟩
  | 3, h => by simp only [List.getElem?_cons_zero, List.getElem?_cons_succ, Option.some.injEq, Prod.mk.injEq] at h; obtain ⟨rfl, rfl, rfl⟩ := h; exact ⟨_, rfl, rfl, Tryz.sizeOf30, Tryz.isAgg30⟩
  | 4, h => by simp only [List.getElem?_cons_zero, List.getElem?_cons_succ, Option.some.injEq, Prod.mk.injEq] at h; obtain ⟨rfl, rfl, rfl⟩ := h; exact ⟨_, rfl, rfl, Tryz.sizeOf30, Tryz.isAgg30⟩
  | 5, h => by simp only [List.getElem?_cons_zero, List.getElem?_cons_succ, Option.some.injEq, Prod.mk.injEq] at h; obtain ⟨rfl, rfl, rfl⟩ := h; exact ⟨_, rfl, rfl, Tryz.sizeOf30, Tryz.isAgg30⟩
  | 6, h => by simp only [List.getElem?_cons_zero, List.getElem?_cons_succ, Option.some.injEq, Prod.mk.injEq] at h; obtain ⟨rfl, rfl, rfl⟩ := h; exact ⟨_, rfl, rfl, Tryz.sizeOf30, Tryz.isAgg30⟩
  | 7, h => by simp only [List.getElem?_cons_zero, List.getElem?_cons_succ, Option.some.injEq, Prod.mk.injEq] at h; obtain ⟨rfl, rfl, rfl⟩ := h; exact ⟨_, rfl, rfl, Tryz.sizeOf30, Tryz.isAgg30⟩
  | 8, h => by simp only [List.getElem?_cons_zero, List.getElem?_cons_succ, Option.some.injEq, Prod.mk.injEq] at h; obtain ⟨rfl, rfl, rfl⟩ := h; exact ⟨_, rfl, rfl, Tryz.sizeOf3, Tryz.isAgg3⟩
  | 9, h => by simp only [List.getElem?_cons_zero, List.getElem?_cons_succ, Option.some.injEq, Prod.mk.injEq] at h; obtain ⟨rfl, rfl, rfl⟩ := h; exact ⟨_, rfl, rfl, Tryz.sizeOf3, Tryz.isAgg3⟩
  | 10, h => by simp only [List.getElem?_cons_zero, List.getElem?_cons_succ, Option.some.injEq, Prod.mk.injEq] at h; obtain ⟨rfl, rfl, rfl⟩ := h; exact ⟨_, rfl, rfl, Tryz.sizeOf25, Tryz.isAgg25⟩
  | 11, h => by simp only [List.getElem?_cons_zero, List.getElem?_cons_succ, Option.some.injEq, Prod.mk.injEq] at h; obtain ⟨rfl, rfl, rfl⟩ := h; exact ⟨_, rfl, rfl, Tryz.sizeOf3, Tryz.isAgg3⟩
  | 12, h => by simp only [List.getElem?_cons_zero, List.getElem?_cons_succ, Option.some.injEq, Prod.mk.injEq] at h; obtain ⟨rfl, rfl, rfl⟩ := h; exact ⟨_, rfl, rfl, Tryz.sizeOf31, Tryz.isAgg31⟩
  | 13, h => by simp only [List.getElem?_cons_zero, List.getElem?_cons_succ, Option.some.injEq, Prod.mk.injEq] at h; obtain ⟨rfl, rfl, rfl⟩ := h; exact ⟨_, rfl, rfl, Tryz.sizeOf32, Tryz.isAgg32⟩
  | 14, h => by simp only [List.getElem?_cons_zero, List.getElem?_cons_succ, Option.some.injEq, Prod.mk.injEq] at h; obtain ⟨rfl, rfl, rfl⟩ := h; exact ⟨_, rfl, rfl, Tryz.sizeOf33, Tryz.isAgg33⟩
  | 15, h => by simp only [List.getElem?_cons_zero, List.getElem?_cons_succ, Option.some.injEq, Prod.mk.injEq] at h; obtain ⟨rfl, rfl, rfl⟩ := h; exact ⟨_, rfl, rfl, Tryz.sizeOf34, Tryz.isAgg34⟩
  | (i + 16), h => by simp at h⟩
instance ty36 : Ty Tryz.prog 36 true 16 [.int .u8 0, .int .u64 0, .int .u64 0, .int .u64 0, .int .u64 0, .int .u64 0, .int .u64 0, .int .u64 0, .int .i64 0, .int .i64 0, .int .i64 0, .int .i64 0, .slice none 0 0, .slice none 0 0, .slice none 0 0, .slice none 0 0] 192 := ⟨⟨Tryz.t36, _, by kernel_rfl, rfl, rfl, rfl, rfl⟩, Tryz.isAgg36, Tryz.sizeOf36, ⟨_, Tryz.zeroValue36, rfl⟩, ⟨_, Tryz.typeInfo36, rfl⟩⟩
instance hu36 : HasUnd Tryz.prog 36 := ⟨_, Tryz.runUnderlying36⟩
instance ss36 : StTy Tryz.prog 36 [(0, 1, false), (1, 1, false), (2, 1, false), (3, 1, false), (4, 1, false), (5, 1, false), (6, 1, false), (7, 1, false), (8, 1, false), (9, 1, false), (10, 1, false), (11, 1, false), (12, 1, false), (13, 1, false), (14, 1, false), (15, 1, false)] := ⟨_, Tryz.runUnderlying36, rfl, fun i off sz ag h => match i, h with
  | 0, h => by simp only [List.getElem?_cons_zero, List.getElem?_cons_succ, Option.some.injEq, Prod.mk.injEq] at h; obtain ⟨rfl, rfl, rfl⟩ := h; exact ⟨_, rfl, rfl, Tryz.sizeOf5, Tryz.isAgg5⟩
  | 1, h => by simp only [List.getElem?_cons_zero, List.getElem?_cons_succ, Option.some.injEq, Prod.mk.injEq] at h; obtain ⟨rfl, rfl, rfl⟩ := h; exact ⟨_, rfl, rfl, Tryz.sizeOf30, Tryz.isAgg30⟩
  | 2, h => by simp only [List.getElem?_cons_zero, List.getElem?_cons_succ, Option.some.injEq, Prod.mk.injEq] at h; obtain ⟨rfl, rfl, rfl⟩ := h; exact ⟨_, rfl, rfl, Tryz.sizeOf30, Tryz.isAgg30⟩
  | 3, h => by simp only [List.getElem?_cons_zero, List.getElem?_cons_succ, Option.some.injEq, Prod.mk.injEq] at h; obtain ⟨rfl, rfl, rfl⟩ := h; exact ⟨_, rfl, rfl, Tryz.sizeOf30, Tryz.isAgg30⟩
  | 4, h => by simp only [List.getElem?_cons_zero, List.getElem?_cons_succ, Option.some.injEq, Prod.mk.injEq] at h; obtain ⟨rfl, rfl, rfl⟩ := h; exact ⟨_, rfl, rfl, Tryz.sizeOf30, Tryz.isAgg30⟩
  | 5, h => by simp only [List.getElem?_cons_zero, List.getElem?_cons_succ, Option.some.injEq, Prod.mk.injEq] at h; obtain ⟨rfl, rfl, rfl⟩ := h; exact ⟨_, rfl, rfl, Tryz.sizeOf30, Tryz.isAgg30⟩
  | 6, h => by simp only [List.getElem?_cons_zero, List.getElem?_cons_succ, Option.some.injEq, Prod.mk.injEq] at h; obtain ⟨rfl, rfl, rfl⟩ := h; exact ⟨_, rfl, rfl, Tryz.sizeOf30, Tryz.isAgg30⟩
  | 7, h => by simp only [List.getElem?_cons_zero, List.getElem?_cons_succ, Option.some.injEq, Prod.mk.injEq] at h; obtain ⟨rfl, rfl, rfl⟩ := h; exact ⟨_, rfl, rfl, Tryz.sizeOf30, Tryz.isAgg30⟩
  | 8, h => by simp only [List.getElem?_cons_zero, List.getElem?_cons_succ, Option.some.injEq, Prod.mk.injEq] at h; obtain ⟨rfl, rfl, rfl⟩ := h; exact ⟨_, rfl, rfl, Tryz.sizeOf3, Tryz.isAgg3⟩
  | 9, h => by simp only [List.getElem?_cons_zero, List.getElem?_cons_succ, Option.some.injEq, Prod.mk.injEq] at h; obtain ⟨rfl, rfl, rfl⟩ := h; exact ⟨_, rfl, rfl, Tryz.sizeOf3, Tryz.isAgg3⟩
  | 10, h => by simp only [List.getElem?_cons_zero, List.getElem?_cons_succ, Option.some.injEq, Prod.mk.injEq] at h; obtain ⟨rfl, rfl, rfl⟩ := h; exact ⟨_, rfl, rfl, Tryz.sizeOf25, Tryz.isAgg25⟩
  | 11, h => by simp only [List.getElem?_cons_zero, List.getElem?_cons_succ, Option.some.injEq, Prod.mk.injEq] at h; obtain ⟨rfl, rfl, rfl⟩ := h; exact ⟨_, rfl, rfl, Tryz.sizeOf3, Tryz.isAgg3⟩
  | 12, h => by simp only [List.getElem?_cons_zero, List.getElem?_cons_succ, Option.some.injEq, Prod.mk.injEq] at h; obtain ⟨rfl, rfl, rfl⟩ := h; exact ⟨_, rfl, rfl, Tryz.sizeOf31, Tryz.isAgg31⟩
  | 13, h => by simp only [List.getElem?_cons_zero, List.getElem?_cons_succ, Option.some.injEq, Prod.mk.injEq] at h; obtain ⟨rfl, rfl, rfl⟩ := h; exact ⟨_, rfl, rfl, Tryz.sizeOf32, Tryz.isAgg32⟩
  | 14, h => by simp only [List.getElem?_cons_zero, List.getElem?_cons_succ, Option.some.injEq, Prod.mk.injEq] at h; obtain ⟨rfl, rfl, rfl⟩ := h; exact ⟨_, rfl, rfl, Tryz.sizeOf33, Tryz.isAgg33⟩
  | 15, h => by simp only [List.getElem?_cons_zero, List.getElem?_cons_succ, Option.some.injEq, Prod.mk.injEq] at h; obtain ⟨rfl, rfl, rfl⟩ := h; exact ⟨_, rfl, rfl, Tryz.sizeOf34, Tryz.isAgg34⟩
  | (i + 16), h => by simp at h⟩
instance ty37 : Ty Tryz.prog 37 true 21 [.int .i64 0, .int .u8 0, .int .u64 0, .int .u64 0, .int .u64 0, .int .u64 0, .int .u64 0, .int .u64 0, .int .u64 0, .int .i64 0, .int .i64 0, .int .i64 0, .int .i64 0, .slice none 0 0, .slice none 0 0, .slice none 0 0, .slice none 0 0, .bool false, .bool false, .int .u64 0, .int .u64 0] 224 := ⟨⟨Tryz.t37, _, by kernel_rfl, rfl, rfl, rfl, rfl⟩, Tryz.isAgg37, Tryz.sizeOf37, ⟨_, Tryz.zeroValue37, rfl⟩, ⟨_, Tryz.typeInfo37, rfl⟩⟩
instance hu37 : HasUnd Tryz.prog 37 := ⟨_, Tryz.runUnderlying37⟩
instance ss37 : StTy Tryz.prog 37 [(0, 1, false), (1, 16, true), (17, 1, false), (18, 1, false), (19, 1, false), (20, 1, false)] := ⟨_, Tryz.runUnderlying37, rfl, fun i off sz ag h => match i, h with
  | 0, h => by simp only [List.getElem?_cons_zero, List.getElem?_cons_succ, Option.some.injEq, Prod.mk.injEq] at h; obtain ⟨rfl, rfl, rfl⟩ := h; exact ⟨_, rfl, rfl, Tryz.sizeOf3, Tryz.isAgg3⟩
  | 1, h => by simp only [List.getElem?_cons_zero, List.getElem?_cons_succ, Option.some.injEq, Prod.mk.injEq] at h; obtain ⟨rfl, rfl, rfl⟩ := h; exact ⟨_, rfl, rfl, Tryz.sizeOf36, Tryz.isAgg36⟩
  | 2, h => by simp only [List.getElem?_cons_zero, List.getElem?_cons_succ, Option.some.injEq, Prod.mk.injEq] at h; obtain ⟨rfl, rfl, rfl⟩ := h; exact ⟨_, rfl, rfl, Tryz.sizeOf4, Tryz.isAgg4⟩
  | 3, h => by simp only [List.getElem?_cons_zero, List.getElem?_cons_succ, Option.some.injEq, Prod.mk.injEq] at h; obtain ⟨rfl, rfl, rfl⟩ := h; exact ⟨_, rfl, rfl, Tryz.sizeOf4, Tryz.isAgg4⟩
  | 4, h => by simp only [List.getElem?_cons_zero, List.getElem?_cons_succ, Option.some.injEq, Prod.mk.injEq] at h; obtain ⟨rfl, rfl, rfl⟩ := h; exact ⟨_, rfl, rfl, Tryz.sizeOf30, Tryz.isAgg30⟩
  | 5, h => by simp only [List.getElem?_cons_zero, List.getElem?_cons_succ, Option.some.injEq, Prod.mk.injEq] at h; obtain ⟨rfl, rfl, rfl⟩ := h; exact ⟨_, rfl, rfl, Tryz.sizeOf30, Tryz.isAgg30⟩
  | (i + 6), h => by simp at h⟩
instance ty38 : Ty Tryz.prog 38 true 21 [.int .i64 0, .int .u8 0, .int .u64 0, .int .u64 0, .int .u64 0, .int .u64 0, .int .u64 0, .int .u64 0, .int .u64 0, .int .i64 0, .int .i64 0, .int .i64 0, .int .i64 0, .slice none 0 0, .slice none 0 0, .slice none 0 0, .slice none 0 0, .bool false, .bool false, .int .u64 0, .int .u64 0] 224 := ⟨⟨Tryz.t38, _, by kernel_rfl, rfl, rfl, rfl, rfl⟩, Tryz.isAgg38, Tryz.sizeOf38, ⟨_, Tryz.zeroValue38, rfl⟩, ⟨_, Tryz.typeInfo38, rfl⟩⟩
instance hu38 : HasUnd Tryz.prog 38 := ⟨_, Tryz.runUnderlying38⟩
instance ss38 : StTy Tryz.prog 38 [(0, 1, false), (1, 16, true), (17, 1, false), (18, 1, false), (19, 1, false), (20, 1, false)] := ⟨_, Tryz.runUnderlying38, rfl, fun i off sz ag h => match i, h with
  | 0, h => by simp only [List.getElem?_cons_zero, List.getElem?_cons_succ, Option.some.injEq, Prod.mk.injEq] at h; obtain ⟨rfl, rfl, rfl⟩ := h; exact ⟨_, rfl, rfl, Tryz.sizeOf3, Tryz.isAgg3⟩
  | 1, h => by simp only [List.getElem?_cons_zero, List.getElem?_cons_succ, Option.some.injEq, Prod.mk.injEq] at h; obtain ⟨rfl, rfl, rfl⟩ := h; exact ⟨_, rfl, rfl, Tryz.sizeOf36, Tryz.isAgg36⟩
  | 2, h => by simp only [List.getElem?_cons_zero, List.getElem?_cons_succ, Option.some.injEq, Prod.mk.injEq] at h; obtain ⟨rfl, rfl, rfl⟩ := h; exact ⟨_, rfl, rfl, Tryz.sizeOf4, Tryz.isAgg4⟩
  | 3, h => by simp only [List.getElem?_cons_zero, List.getElem?_cons_succ, Option.some.injEq, Prod.mk.injEq] at h; obtain ⟨rfl, rfl, rfl⟩ := h; exact ⟨_, rfl, rfl, Tryz.sizeOf4, Tryz.isAgg4⟩
  | 4, h => by simp only [List.getElem?_cons_zero, List.getElem?_cons_succ, Option.some.injEq, Prod.mk.injEq] at h; obtain ⟨rfl, rfl, rfl⟩ := h; exact ⟨_, rfl, rfl, Tryz.sizeOf30, Tryz.isAgg30⟩
  | 5, h => by simp only [List.getElem?_cons_zero, List.getElem?_cons_succ, Option.some.injEq, Prod.mk.injEq] at h; obtain ⟨rfl, rfl, rfl⟩ := h; exact ⟨_, rfl, rfl, Tryz.sizeOf30, Tryz.isAgg30⟩
  | (i + 6), h => by simp at h⟩
instance ty39 : Ty Tryz.prog 39 false 1 [.slice none 0 0] 24 := ⟨⟨Tryz.t39, _, by kernel_rfl, rfl, rfl, rfl, rfl⟩, Tryz.isAgg39, Tryz.sizeOf39, ⟨_, Tryz.zeroValue39, rfl⟩, ⟨_, Tryz.typeInfo39, rfl⟩⟩
instance hu39 : HasUnd Tryz.prog 39 := ⟨_, Tryz.runUnderlying39⟩
instance sl39 : SlTy Tryz.prog 39 44 := ⟨Tryz.runUnderlying39, Tryz.underlying39⟩
instance ty40 : Ty Tryz.prog 40 false 1 [.nilFunc] 8 := ⟨⟨Tryz.t40, _, by kernel_rfl, rfl, rfl, rfl, rfl⟩, Tryz.isAgg40, Tryz.sizeOf40, ⟨_, Tryz.zeroValue40, rfl⟩, ⟨_, Tryz.typeInfo40, rfl⟩⟩
instance hu40 : HasUnd Tryz.prog 40 := ⟨_, Tryz.runUnderlying40⟩
instance ty41 : Ty Tryz.prog 41 false 1 [.nilFunc] 8 := ⟨⟨Tryz.t41, _, by kernel_rfl, rfl, rfl, rfl, rfl⟩, Tryz.isAgg41, Tryz.sizeOf41, ⟨_, Tryz.zeroValue41, rfl⟩, ⟨_, Tryz.typeInfo41, rfl⟩⟩
instance hu41 : HasUnd Tryz.prog 41 := ⟨_, Tryz.runUnderlying41⟩
instance ty42 : Ty Tryz.prog 42 false 1 [.map none] 8 := ⟨⟨Tryz.t42, _, by kernel_rfl, rfl, rfl, rfl, rfl⟩, Tryz.isAgg42, Tryz.sizeOf42, ⟨_, Tryz.zeroValue42, rfl⟩, ⟨_, Tryz.typeInfo42, rfl⟩⟩
instance hu42 : HasUnd Tryz.prog 42 := ⟨_, Tryz.runUnderlying42⟩
instance mt42 : MapTy Tryz.prog 42 30 4 := ⟨Tryz.runUnderlying42, Tryz.underlying42⟩
instance ty43 : Ty Tryz.prog 43 true 3 [.int .u64 0, .int .u64 0, .slice none 0 0] 40 := ⟨⟨Tryz.t43, _, by kernel_rfl, rfl, rfl, rfl, rfl⟩, Tryz.isAgg43, Tryz.sizeOf43, ⟨_, Tryz.zeroValue43, rfl⟩, ⟨_, Tryz.typeInfo43, rfl⟩⟩
instance hu43 : HasUnd Tryz.prog 43 := ⟨_, Tryz.runUnderlying43⟩
instance ss43 : StTy Tryz.prog 43 [(0, 1, false), (1, 1, false), (2, 1, false)] := ⟨_, Tryz.runUnderlying43, rfl, fun i off sz ag h => match i, h with
  | 0, h => by simp only [List.getElem?_cons_zero, List.getElem?_cons_succ, Option.some.injEq, Prod.mk.injEq] at h; obtain ⟨rfl, rfl, rfl⟩ := h; exact ⟨_, rfl, rfl, Tryz.sizeOf30, Tryz.isAgg30⟩
  | 1, h => by simp only [List.getElem?_cons_zero, List.getElem?_cons_succ, Option.some.injEq, Prod.mk.injEq] at h; obtain ⟨rfl, rfl, rfl⟩ := h; exact ⟨_, rfl, rfl, Tryz.sizeOf30, Tryz.isAgg30⟩
  | 2, h => by simp only [List.getElem?_cons_zero, List.getElem?_cons_succ, Option.some.injEq, Prod.mk.injEq] at h; obtain ⟨rfl, rfl, rfl⟩ := h; exact ⟨_, rfl, rfl, Tryz.sizeOf32, Tryz.isAgg32⟩
  | (i + 3), h => by simp at h⟩
instance ty44 : Ty Tryz.prog 44 true 3 [.int .u64 0, .int .u64 0, .slice none 0 0] 40 := ⟨⟨Tryz.t44, _, by kernel_rfl, rfl, rfl, rfl, rfl⟩, Tryz.isAgg44, Tryz.sizeOf44, ⟨_, Tryz.zeroValue44, rfl⟩, ⟨_, Tryz.typeInfo44, rfl⟩⟩
instance hu44 : HasUnd Tryz.prog 44 := ⟨_, Tryz.runUnderlying44⟩
instance ss44 : StTy Tryz.prog 44 [(0, 1, false), (1, 1, false), (2, 1, false)] := ⟨_, Tryz.runUnderlying44, rfl, fun i off sz ag h => match i, h with
  | 0, h => by simp only [List.getElem?_cons_zero, List.getElem?_cons_succ, Option.some.injEq, Prod.mk.injEq] at h; obtain ⟨rfl, rfl, rfl⟩ := h; exact ⟨_, rfl, rfl, Tryz.sizeOf30, Tryz.isAgg30⟩
  | 1, h => by simp only [List.getElem?_cons_zero, List.getElem?_cons_succ, Option.some.injEq, Prod.mk.injEq] at h; obtain ⟨rfl, rfl, rfl⟩ := h; exact ⟨_, rfl, rfl, Tryz.sizeOf30, Tryz.isAgg30⟩
  | 2, h => by simp only [List.getElem?_cons_zero, List.getElem?_cons_succ, Option.some.injEq, Prod.mk.injEq] at h; obtain ⟨rfl, rfl, rfl⟩ := h; exact ⟨_, rfl, rfl, Tryz.sizeOf32, Tryz.isAgg32⟩
  | (i + 3), h => by simp at h⟩
instance ty45 : Ty Tryz.prog 45 true 2 [.int .u64 0, .slice none 0 0] 32 := ⟨⟨Tryz.t45, _, by kernel_rfl, rfl, rfl, rfl, rfl⟩, Tryz.isAgg45, Tryz.sizeOf45, ⟨_, Tryz.zeroValue45, rfl⟩, ⟨_, Tryz.typeInfo45, rfl⟩⟩
instance hu45 : HasUnd Tryz.prog 45 := ⟨_, Tryz.runUnderlying45⟩
instance ss45 : StTy Tryz.prog 45 [(0, 1, false), (1, 1, false)] := ⟨_, Tryz.runUnderlying45, rfl, fun i off sz ag h => match i, h with
  | 0, h => by simp only [List.getElem?_cons_zero, List.getElem?_cons_succ, Option.some.injEq, Prod.mk.injEq] at h; obtain ⟨rfl, rfl, rfl⟩ := h; exact ⟨_, rfl, rfl, Tryz.sizeOf30, Tryz.isAgg30⟩
  | 1, h => by simp only [List.getElem?_cons_zero, List.getElem?_cons_succ, Option.some.injEq, Prod.mk.injEq] at h; obtain ⟨rfl, rfl, rfl⟩ := h; exact ⟨_, rfl, rfl, Tryz.sizeOf33, Tryz.isAgg33⟩
  | (i + 2), h => by simp at h⟩
instance ty46 : Ty Tryz.prog 46 true 2 [.int .u64 0, .slice none 0 0] 32 := ⟨⟨Tryz.t46, _, by kernel_rfl, rfl, rfl, rfl, rfl⟩, Tryz.isAgg46, Tryz.sizeOf46, ⟨_, Tryz.zeroValue46, rfl⟩, ⟨_, Tryz.typeInfo46, rfl⟩⟩
instance hu46 : HasUnd Tryz.prog 46 := ⟨_, Tryz.runUnderlying46⟩
instance ss46 : StTy Tryz.prog 46 [(0, 1, false), (1, 1, false)] := ⟨_, Tryz.runUnderlying46, rfl, fun i off sz ag h => match i, h with
  | 0, h => by simp only [List.getElem?_cons_zero, List.getElem?_cons_succ, Option.some.injEq, Prod.mk.injEq] at h; obtain ⟨rfl, rfl, rfl⟩ := h; exact ⟨_, rfl, rfl, Tryz.sizeOf30, Tryz.isAgg30⟩
  | 1, h => by simp only [List.getElem?_cons_zero, List.getElem?_cons_succ, Option.some.injEq, Prod.mk.injEq] at h; obtain ⟨rfl, rfl, rfl⟩ := h; exact ⟨_, rfl, rfl, Tryz.sizeOf33, Tryz.isAgg33⟩
  | (i + 2), h => by simp at h⟩
instance ty47 : Ty Tryz.prog 47 false 1 [.nilFunc] 8 := ⟨⟨Tryz.t47, _, by kernel_rfl, rfl, rfl, rfl, rfl⟩, Tryz.isAgg47, Tryz.sizeOf47, ⟨_, Tryz.zeroValue47, rfl⟩, ⟨_, Tryz.typeInfo47, rfl⟩⟩
instance hu47 : HasUnd Tryz.prog 47 := ⟨_, Tryz.runUnderlying47⟩
instance ty48 : Ty Tryz.prog 48 false 1 [.nilFunc] 8 := ⟨⟨Tryz.t48, _, by kernel_rfl, rfl, rfl, rfl, rfl⟩, Tryz.isAgg48, Tryz.sizeOf48, ⟨_, Tryz.zeroValue48, rfl⟩, ⟨_, Tryz.typeInfo48, rfl⟩⟩
instance hu48 : HasUnd Tryz.prog 48 := ⟨_, Tryz.runUnderlying48⟩
instance ty49 : Ty Tryz.prog 49 false 1 [.nilFunc] 8 := ⟨⟨Tryz.t49, _, by kernel_rfl, rfl, rfl, rfl, rfl⟩, Tryz.isAgg49, Tryz.sizeOf49, ⟨_, Tryz.zeroValue49, rfl⟩, ⟨_, Tryz.typeInfo49, rfl⟩⟩
instance hu49 : HasUnd Tryz.prog 49 := ⟨_, Tryz.runUnderlying49⟩
instance hu50 : HasUnd Tryz.prog 50 := ⟨_, Tryz.runUnderlying50⟩
instance ty51 : Ty Tryz.prog 51 false 1 [.nilFunc] 8 := ⟨⟨Tryz.t51, _, by kernel_rfl, rfl, rfl, rfl, rfl⟩, Tryz.isAgg51, Tryz.sizeOf51, ⟨_, Tryz.zeroValue51, rfl⟩, ⟨_, Tryz.typeInfo51, rfl⟩⟩
instance hu51 : HasUnd Tryz.prog 51 := ⟨_, Tryz.runUnderlying51⟩
instance ty52 : Ty Tryz.prog 52 false 1 [.slice none 0 0] 24 := ⟨⟨Tryz.t52, _, by kernel_rfl, rfl, rfl, rfl, rfl⟩, Tryz.isAgg52, Tryz.sizeOf52, ⟨_, Tryz.zeroValue52, rfl⟩, ⟨_, Tryz.typeInfo52, rfl⟩⟩
instance hu52 : HasUnd Tryz.prog 52 := ⟨_, Tryz.runUnderlying52⟩
instance sl52 : SlTy Tryz.prog 52 57 := ⟨Tryz.runUnderlying52, Tryz.underlying52⟩
instance ty53 : Ty Tryz.prog 53 false 1 [.slice none 0 0] 24 := ⟨⟨Tryz.t53, _, by kernel_rfl, rfl, rfl, rfl, rfl⟩, Tryz.isAgg53, Tryz.sizeOf53, ⟨_, Tryz.zeroValue53, rfl⟩, ⟨_, Tryz.typeInfo53, rfl⟩⟩
instance hu53 : HasUnd Tryz.prog 53 := ⟨_, Tryz.runUnderlying53⟩
instance sl53 : SlTy Tryz.prog 53 62 := ⟨Tryz.runUnderlying53, Tryz.underlying53⟩
instance ty54 : Ty Tryz.prog 54 true 3 [.slice none 0 0, .slice none 0 0, .slice none 0 0] 72 := ⟨⟨Tryz.t54, _, by kernel_rfl, rfl, rfl, rfl, rfl⟩, Tryz.isAgg54, Tryz.sizeOf54, ⟨_, Tryz.zeroValue54, rfl⟩, ⟨_, Tryz.typeInfo54, rfl⟩⟩
instance hu54 : HasUnd Tryz.prog 54 := ⟨_, Tryz.runUnderlying54⟩
instance ss54 : StTy Tryz.prog 54 [(0, 1, false), (1, 1, false), (2, 1, false)] := ⟨_, Tryz.runUnderlying54, rfl, fun i off sz ag h => match i, h with
  | 0, h => by simp only [List.getElem?_cons_zero, List.getElem?_cons_succ, Option.some.injEq, Prod.mk.injEq] at h; obtain ⟨rfl, rfl, rfl⟩ := h; exact ⟨_, rfl, rfl, Tryz.sizeOf52, Tryz.isAgg52⟩
  | 1, h => by simp only [List.getElem?_cons_zero, List.getElem?_cons_succ, Option.some.injEq, Prod.mk.injEq] at h; obtain ⟨rfl, rfl, rfl⟩ := h; exact ⟨_, rfl, rfl, Tryz.sizeOf53, Tryz.isAgg53⟩
  | 2, h => by simp only [List.getElem?_cons_zero, List.getElem?_cons_succ, Option.some.injEq, Prod.mk.injEq] at h; obtain ⟨rfl, rfl, rfl⟩ := h; exact ⟨_, rfl, rfl, Tryz.sizeOf53, Tryz.isAgg53⟩
  | (i + 3), h => by simp at h⟩
instance ty55 : Ty Tryz.prog 55 true 3 [.slice none 0 0, .slice none 0 0, .slice none 0 0] 72 := ⟨⟨Tryz.t55, _, by kernel_rfl, rfl, rfl, rfl, rfl⟩, Tryz.isAgg55, Tryz.sizeOf55, ⟨_, Tryz.zeroValue55, rfl⟩, ⟨_, Tryz.typeInfo55, rfl⟩⟩
instance hu55 : HasUnd Tryz.prog 55 := ⟨_, Tryz.runUnderlying55⟩
instance ss55 : StTy Tryz.prog 55 [(0, 1, false), (1, 1, false), (2, 1, false)] := ⟨_, Tryz.runUnderlying55, rfl, fun i off sz ag h => match i, h with
  | 0, h => by simp only [List.getElem?_cons_zero, List.getElem?_cons_succ, Option.some.injEq, Prod.mk.injEq] at h; obtain ⟨rfl, rfl, rfl⟩ := h; exact ⟨_, rfl, rfl, Tryz.sizeOf52, Tryz.isAgg52⟩
  | 1, h => by simp only [List.getElem?_cons_zero, List.getElem?_cons_succ, Option.some.injEq, Prod.mk.injEq] at h; obtain ⟨rfl, rfl, rfl⟩ := h; exact ⟨_, rfl, rfl, Tryz.sizeOf53, Tryz.isAgg53⟩
  | 2, h => by simp only [List.getElem?_cons_zero, List.getElem?_cons_succ, Option.some.injEq, Prod.mk.injEq] at h; obtain ⟨rfl, rfl, rfl⟩ := h; exact ⟨_, rfl, rfl, Tryz.sizeOf53, Tryz.isAgg53⟩
  | (i + 3), h => by simp at h⟩
instance ty56 : Ty Tryz.prog 56 false 1 [.nilFunc] 8 := ⟨⟨Tryz.t56, _, by kernel_rfl, rfl, rfl, rfl, rfl⟩, Tryz.isAgg56, Tryz.sizeOf56, ⟨_, Tryz.zeroValue56, rfl⟩, ⟨_, Tryz.typeInfo56, rfl⟩⟩
instance hu56 : HasUnd Tryz.prog 56 := ⟨_, Tryz.runUnderlying56⟩
instance ty57 : Ty Tryz.prog 57 true 16 [.int .u8 0, .int .u64 0, .int .u64 0, .int .u64 0, .int .u64 0, .int .u64 0, .int .u64 0, .int .u64 0, .int .i64 0, .int .i64 0, .int .i64 0, .int .i64 0, .slice none 0 0, .slice none 0 0, .slice none 0 0, .slice none 0 0] 192 := ⟨⟨Tryz.t57, _, by kernel_rfl, rfl, rfl, rfl, rfl⟩, Tryz.isAgg57, Tryz.sizeOf57, ⟨_, Tryz.zeroValue57, rfl⟩, ⟨_, Tryz.typeInfo57, rfl⟩⟩
instance hu57 : HasUnd Tryz.prog 57 := ⟨_, Tryz.runUnderlying57⟩
instance ss57 : StTy Tryz.prog 57 [(0, 1, false), (1, 1, false), (2, 1, false), (3, 1, false), (4, 1, false), (5, 1, false), (6, 1, false), (7, 1, false), (8, 1, false), (9, 1, false), (10, 1, false), (11, 1, false), (12, 1, false), (13, 1, false), (14, 1, false), (15, 1, false)] := ⟨_, Tryz.runUnderlying57, rfl, fun i off sz ag h => match i, h with
  | 0, h => by simp only [List.getElem?_cons_zero, List.getElem?_cons_succ, Option.some.injEq, Prod.mk.injEq] at h; obtain ⟨rfl, rfl, rfl⟩ := h; exact ⟨_, rfl, rfl, Tryz.sizeOf5, Tryz.isAgg5⟩
  | 1, h => by simp only [List.getElem?_cons_zero, List.getElem?_cons_succ, Option.some.injEq, Prod.mk.injEq] at h; obtain ⟨rfl, rfl, rfl⟩ := h; exact ⟨_, rfl, rfl, Tryz.sizeOf30, Tryz.isAgg30⟩
  | 2, h => by simp only [List.getElem?_cons_zero, List.getElem?_cons_succ, Option.some.injEq, Prod.mk.injEq] at h; obtain ⟨rfl, rfl, rfl⟩ := h; exact ⟨_, rfl, rfl, Tryz.sizeOf30, Tryz.isAgg30⟩
  | 3, h => by simp only [List.getElem?_cons_zero, List.getElem?_cons_succ, Option.some.injEq, Prod.mk.injEq] at h; obtain ⟨rfl, rfl, rfl⟩ := h; exact ⟨_, rfl, rfl, Tryz.sizeOf30, Tryz.isAgg30⟩
  | 4, h => by simp only [List.getElem?_cons_zero, List.getElem?_cons_succ, Option.some.injEq, Prod.mk.injEq] at h; obtain ⟨rfl, rfl, rfl⟩ := h; exact ⟨_, rfl, rfl, Tryz.sizeOf30, Tryz.isAgg30⟩
  | 5, h => by simp only [List.getElem?_cons_zero, List.getElem?_cons_succ, Option.some.injEq, Prod.mk.injEq] at h; obtain ⟨rfl, rfl, rfl⟩ := h; exact ⟨_, rfl, rfl, Tryz.sizeOf30, Tryz.isAgg30⟩
  | 6, h => by simp only [List.getElem?_cons_zero, List.getElem?_cons_succ, Option.some.injEq, Prod.mk.injEq] at h; obtain ⟨rfl, rfl, rfl⟩ := h; exact ⟨_, rfl, rfl, Tryz.sizeOf30, Tryz.isAgg30⟩
  | 7, h => by simp only [List.getElem?_cons_zero, List.getElem?_cons_succ, Option.some.injEq, Prod.mk.injEq] at h; obtain ⟨rfl, rfl, rfl⟩ := h; exact ⟨_, rfl, rfl, Tryz.sizeOf30, Tryz.isAgg30⟩
  | 8, h => by simp only [List.getElem?_cons_zero, List.getElem?_cons_succ, Option.some.injEq, Prod.mk.injEq] at h; obtain ⟨rfl, rfl, rfl⟩ := h; exact ⟨_, rfl, rfl, Tryz.sizeOf3, Tryz.isAgg3⟩
  | 9, h => by simp only [List.getElem?_cons_zero, List.getElem?_cons_succ, Option.some.injEq, Prod.mk.injEq] at h; obtain ⟨rfl, rfl, rfl⟩ := h; exact ⟨_, rfl, rfl, Tryz.sizeOf3, Tryz.isAgg3⟩
  | 10, h => by simp only [List.getElem?_cons_zero, List.getElem?_cons_succ, Option.some.injEq, Prod.mk.injEq] at h; obtain ⟨rfl, rfl, rfl⟩ := h; exact ⟨_, rfl, rfl, Tryz.sizeOf25, Tryz.isAgg25⟩
  | 11, h => by simp only [List.getElem?_cons_zero, List.getElem?_cons_succ, Option.some.injEq, Prod.mk.injEq] at h; obtain ⟨rfl, rfl, rfl⟩ := h; exact ⟨_, rfl, rfl, Tryz.sizeOf3, Tryz.isAgg3⟩
  | 12, h => by simp only [List.getElem?_cons_zero, List.getElem?_cons_succ, Option.some.injEq, Prod.mk.injEq] at h; obtain ⟨rfl, rfl, rfl⟩ := h; exact ⟨_, rfl, rfl, Tryz.sizeOf31, Tryz.isAgg31⟩
  | 13, h => by simp only [List.getElem?_cons_zero, List.getElem?_cons_succ, Option.some.injEq, Prod.mk.injEq] at h; obtain ⟨rfl, rfl, rfl⟩ := h; exact ⟨_, rfl, rfl, Tryz.sizeOf32, Tryz.isAgg32⟩
  | 14, h => by simp only [List.getElem?_cons_zero, List.getElem?_cons_succ, Option.some.injEq, Prod.mk.injEq] at h; obtain ⟨rfl, rfl, rfl⟩ := h; exact ⟨_, rfl, rfl, Tryz.sizeOf33, Tryz.isAgg33⟩
  | 15, h => by simp only [List.getElem?_cons_zero, List.getElem?_cons_succ, Option.some.injEq, Prod.mk.injEq] at h; obtain ⟨rfl, rfl, rfl⟩ := h; exact ⟨_, rfl, rfl, Tryz.sizeOf34, Tryz.isAgg34⟩
  | (i + 16), h => by simp at h⟩
instance ty58 : Ty Tryz.prog 58 false 1 [.nilFunc] 8 := ⟨⟨Tryz.t58, _, by kernel_rfl, rfl, rfl, rfl, rfl⟩, Tryz.isAgg58, Tryz.sizeOf58, ⟨_, Tryz.zeroValue58, rfl⟩, ⟨_, Tryz.typeInfo58, rfl⟩⟩
instance hu58 : HasUnd Tryz.prog 58 := ⟨_, Tryz.runUnderlying58⟩
instance ty59 : Ty Tryz.prog 59 false 1 [.nilFunc] 8 := ⟨⟨Tryz.t59, _, by kernel_rfl, rfl, rfl, rfl, rfl⟩, Tryz.isAgg59, Tryz.sizeOf59, ⟨_, Tryz.zeroValue59, rfl⟩, ⟨_, Tryz.typeInfo59, rfl⟩⟩
instance hu59 : HasUnd Tryz.prog 59 := ⟨_, Tryz.runUnderlying59⟩
instance ty60 : Ty Tryz.prog 60 false 1 [.nilFunc] 8 := ⟨⟨Tryz.t60, _, by kernel_rfl, rfl, rfl, rfl, rfl⟩, Tryz.isAgg60, Tryz.sizeOf60, ⟨_, Tryz.zeroValue60, rfl⟩, ⟨_, Tryz.typeInfo60, rfl⟩⟩
instance hu60 : HasUnd Tryz.prog 60 := ⟨_, Tryz.runUnderlying60⟩
instance ty61 : Ty Tryz.prog 61 true 17 [.int .i64 0, .int .u8 0, .int .u64 0, .int .u64 0, .int .u64 0, .int .u64 0, .int .u64 0, .int .u64 0, .int .u64 0, .int .i64 0, .int .i64 0, .int .i64 0, .int .i64 0, .slice none 0 0, .slice none 0 0, .slice none 0 0, .slice none 0 0] 200 := ⟨⟨Tryz.t61, _, by kernel_rfl, rfl, rfl, rfl, rfl⟩, Tryz.isAgg61, Tryz.sizeOf61, ⟨_, Tryz.zeroValue61, rfl⟩, ⟨_, Tryz.typeInfo61, rfl⟩⟩
instance hu61 : HasUnd Tryz.prog 61 := ⟨_, Tryz.runUnderlying61⟩
instance ss61 : StTy Tryz.prog 61 [(0, 1, false), (1, 16, true)] := ⟨_, Tryz.runUnderlying61, rfl, fun i off sz ag h => match i, h with
  | 0, h => by simp only [List.getElem?_cons_zero, List.getElem?_cons_succ, Option.some.injEq, Prod.mk.injEq] at h; obtain ⟨rfl, rfl, rfl⟩ := h; exact ⟨_, rfl, rfl, Tryz.sizeOf3, Tryz.isAgg3⟩
  | 1, h => by simp only [List.getElem?_cons_zero, List.getElem?_cons_succ, Option.some.injEq, Prod.mk.injEq] at h; obtain ⟨rfl, rfl, rfl⟩ := h; exact ⟨_, rfl, rfl, Tryz.sizeOf57, Tryz.isAgg57⟩
  | (i + 2), h => by simp at h⟩
instance ty62 : Ty Tryz.prog 62 true 17 [.int .i64 0, .int .u8 0, .int .u64 0, .int .u64 0, .int .u64 0, .int .u64 0, .int .u64 0, .int .u64 0, .int .u64 0, .int .i64 0, .int .i64 0, .int .i64 0, .int .i64 0, .slice none 0 0, .slice none 0 0, .slice none 0 0, .slice none 0 0] 200 := ⟨⟨Tryz.t62, _, by kernel_rfl, rfl, rfl, rfl, rfl⟩, Tryz.isAgg62, Tryz.sizeOf62, ⟨_, Tryz.zeroValue62, rfl⟩, ⟨_, Tryz.typeInfo62, rfl⟩⟩
instance hu62 : HasUnd Tryz.prog 62 := ⟨_, Tryz.runUnderlying62⟩
instance ss62 : StTy Tryz.prog 62 [(0, 1, false), (1, 16, true)] := ⟨_, Tryz.runUnderlying62, rfl, fun i off sz ag h => match i, h with
  | 0, h => by simp only [List.getElem?_cons_zero, List.getElem?_cons_succ, Option.some.injEq, Prod.mk.injEq] at h; obtain ⟨rfl, rfl, rfl⟩ := h; exact ⟨_, rfl, rfl, Tryz.sizeOf3, Tryz.isAgg3⟩
  | 1, h => by simp only [List.getElem?_cons_zero, List.getElem?_cons_succ, Option.some.injEq, Prod.mk.injEq] at h; obtain ⟨rfl, rfl, rfl⟩ := h; exact ⟨_, rfl, rfl, Tryz.sizeOf57, Tryz.isAgg57⟩
  | (i + 2), h => by simp at h⟩
instance ty63 : Ty Tryz.prog 63 false 1 [.nilFunc] 8 := ⟨⟨Tryz.t63, _, by kernel_rfl, rfl, rfl, rfl, rfl⟩, Tryz.isAgg63, Tryz.sizeOf63, ⟨_, Tryz.zeroValue63, rfl⟩, ⟨_, Tryz.typeInfo63, rfl⟩⟩
instance hu63 : HasUnd Tryz.prog 63 := ⟨_, Tryz.runUnderlying63⟩
instance ty64 : Ty Tryz.prog 64 false 1 [.slice none 0 0] 24 := ⟨⟨Tryz.t64, _, by kernel_rfl, rfl, rfl, rfl, rfl⟩, Tryz.isAgg64, Tryz.sizeOf64, ⟨_, Tryz.zeroValue64, rfl⟩, ⟨_, Tryz.typeInfo64, rfl⟩⟩
instance hu64 : HasUnd Tryz.prog 64 := ⟨_, Tryz.runUnderlying64⟩
instance sl64 : SlTy Tryz.prog 64 5 := ⟨Tryz.runUnderlying64, Tryz.underlying64⟩
instance ty65 : Ty Tryz.prog 65 false 1 [.nilFunc] 8 := ⟨⟨Tryz.t65, _, by kernel_rfl, rfl, rfl, rfl, rfl⟩, Tryz.isAgg65, Tryz.sizeOf65, ⟨_, Tryz.zeroValue65, rfl⟩, ⟨_, Tryz.typeInfo65, rfl⟩⟩
instance hu65 : HasUnd Tryz.prog 65 := ⟨_, Tryz.runUnderlying65⟩
instance ty66 : Ty Tryz.prog 66 false 1 [.nilFunc] 8 := ⟨⟨Tryz.t66, _, by kernel_rfl, rfl, rfl, rfl, rfl⟩, Tryz.isAgg66, Tryz.sizeOf66, ⟨_, Tryz.zeroValue66, rfl⟩, ⟨_, Tryz.typeInfo66, rfl⟩⟩
instance hu66 : HasUnd Tryz.prog 66 := ⟨_, Tryz.runUnderlying66⟩
instance ty67 : Ty Tryz.prog 67 false 1 [.slice none 0 0] 24 := ⟨⟨Tryz.t67, _, by kernel_rfl, rfl, rfl, rfl, rfl⟩, Tryz.isAgg67, Tryz.sizeOf67, ⟨_, Tryz.zeroValue67, rfl⟩, ⟨_, Tryz.typeInfo67, rfl⟩⟩
instance hu67 : HasUnd Tryz.prog 67 := ⟨_, Tryz.runUnderlying67⟩
instance sl67 : SlTy Tryz.prog 67 135 := ⟨Tryz.runUnderlying67, Tryz.underlying67⟩
instance ty68 : Ty Tryz.prog 68 false 1 [.nilFunc] 8 := ⟨⟨Tryz.t68, _, by kernel_rfl, rfl, rfl, rfl, rfl⟩, Tryz.isAgg68, Tryz.sizeOf68, ⟨_, Tryz.zeroValue68, rfl⟩, ⟨_, Tryz.typeInfo68, rfl⟩⟩
instance hu68 : HasUnd Tryz.prog 68 := ⟨_, Tryz.runUnderlying68⟩
instance ty69 : Ty Tryz.prog 69 false 1 [.nilFunc] 8 := ⟨⟨Tryz.t69, _, by kernel_rfl, rfl, rfl, rfl, rfl⟩, Tryz.isAgg69, Tryz.sizeOf69, ⟨_, Tryz.zeroValue69, rfl⟩, ⟨_, Tryz.typeInfo69, rfl⟩⟩
instance hu69 : HasUnd Tryz.prog 69 := ⟨_, Tryz.runUnderlying69⟩
instance ty70 : Ty Tryz.prog 70 false 1 [.nilFunc] 8 := ⟨⟨Tryz.t70, _, by kernel_rfl, rfl, rfl, rfl, rfl⟩, Tryz.isAgg70, Tryz.sizeOf70, ⟨_, Tryz.zeroValue70, rfl⟩, ⟨_, Tryz.typeInfo70, rfl⟩⟩
instance hu70 : HasUnd Tryz.prog 70 := ⟨_, Tryz.runUnderlying70⟩
instance ty71 : Ty Tryz.prog 71 false 1 [.nilFunc] 8 := ⟨⟨Tryz.t71, _, by kernel_rfl, rfl, rfl, rfl, rfl⟩, Tryz.isAgg71, Tryz.sizeOf71, ⟨_, Tryz.zeroValue71, rfl⟩, ⟨_, Tryz.typeInfo71, rfl⟩⟩
instance hu71 : HasUnd Tryz.prog 71 := ⟨_, Tryz.runUnderlying71⟩
instance ty72 : Ty Tryz.prog 72 false 1 [.nilFunc] 8 := ⟨⟨Tryz.t72, _, by kernel_rfl, rfl, rfl, rfl, rfl⟩, Tryz.isAgg72, Tryz.sizeOf72, ⟨_, Tryz.zeroValue72, rfl⟩, ⟨_, Tryz.typeInfo72, rfl⟩⟩
instance hu72 : HasUnd Tryz.prog 72 := ⟨_, Tryz.runUnderlying72⟩
instance ty73 : Ty Tryz.prog 73 false 1 [.nilFunc] 8 := ⟨⟨Tryz.t73, _, by kernel_rfl, rfl, rfl, rfl, rfl⟩, Tryz.isAgg73, Tryz.sizeOf73, ⟨_, Tryz.zeroValue73, rfl⟩, ⟨_, Tryz.typeInfo73, rfl⟩⟩
instance hu73 : HasUnd Tryz.prog 73 := ⟨_, Tryz.runUnderlying73⟩
instance ty74 : Ty Tryz.prog 74 false 1 [.nilFunc] 8 := ⟨⟨Tryz.t74, _, by kernel_rfl, rfl, rfl, rfl, rfl⟩, Tryz.isAgg74, Tryz.sizeOf74, ⟨_, Tryz.zeroValue74, rfl⟩, ⟨_, Tryz.typeInfo74, rfl⟩⟩
instance hu74 : HasUnd Tryz.prog 74 := ⟨_, Tryz.runUnderlying74⟩
instance ty75 : Ty Tryz.prog 75 false 1 [.nilFunc] 8 := ⟨⟨Tryz.t75, _, by kernel_rfl, rfl, rfl, rfl, rfl⟩, Tryz.isAgg75, Tryz.sizeOf75, ⟨_, Tryz.zeroValue75, rfl⟩, ⟨_, Tryz.typeInfo75, rfl⟩⟩
instance hu75 : HasUnd Tryz.prog 75 := ⟨_, Tryz.runUnderlying75⟩
instance ty76 : Ty Tryz.prog 76 false 1 [.nilFunc] 8 := ⟨⟨Tryz.t76, _, by kernel_rfl, rfl, rfl, rfl, rfl⟩, Tryz.isAgg76, Tryz.sizeOf76, ⟨_, Tryz.zeroValue76, rfl⟩, ⟨_, Tryz.typeInfo76, rfl⟩⟩
instance hu76 : HasUnd Tryz.prog 76 := ⟨_, Tryz.runUnderlying76⟩
instance ty77 : Ty Tryz.prog 77 false 1 [.pointer none] 8 := ⟨⟨Tryz.t77, _, by kernel_rfl, rfl, rfl, rfl, rfl⟩, Tryz.isAgg77, Tryz.sizeOf77, ⟨_, Tryz.zeroValue77, rfl⟩, ⟨_, Tryz.typeInfo77, rfl⟩⟩
instance hu77 : HasUnd Tryz.prog 77 := ⟨_, Tryz.runUnderlying77⟩
instance pt77 : PtrTy Tryz.prog 77 189 := ⟨Tryz.runUnderlying77, Tryz.underlying77⟩
instance hu78 : HasUnd Tryz.prog 78 := ⟨_, Tryz.runUnderlying78⟩
instance ty79 : Ty Tryz.prog 79 false 1 [.nilFunc] 8 := ⟨⟨Tryz.t79, _, by kernel_rfl, rfl, rfl, rfl, rfl⟩, Tryz.isAgg79, Tryz.sizeOf79, ⟨_, Tryz.zeroValue79, rfl⟩, ⟨_, Tryz.typeInfo79, rfl⟩⟩
instance hu79 : HasUnd Tryz.prog 79 := ⟨_, Tryz.runUnderlying79⟩
instance ty80 : Ty Tryz.prog 80 false 1 [.map none] 8 := ⟨⟨Tryz.t80, _, by kernel_rfl, rfl, rfl, rfl, rfl⟩, Tryz.isAgg80, Tryz.sizeOf80, ⟨_, Tryz.zeroValue80, rfl⟩, ⟨_, Tryz.typeInfo80, rfl⟩⟩
instance hu80 : HasUnd Tryz.prog 80 := ⟨_, Tryz.runUnderlying80⟩
instance mt80 : MapTy Tryz.prog 80 30 31 := ⟨Tryz.runUnderlying80, Tryz.underlying80⟩
instance ty81 : Ty Tryz.prog 81 false 1 [.map none] 8 := ⟨⟨Tryz.t81, _, by kernel_rfl, rfl, rfl, rfl, rfl⟩, Tryz.isAgg81, Tryz.sizeOf81, ⟨_, Tryz.zeroValue81, rfl⟩, ⟨_, Tryz.typeInfo81, rfl⟩⟩
instance hu81 : HasUnd Tryz.prog 81 := ⟨_, Tryz.runUnderlying81⟩
instance mt81 : MapTy Tryz.prog 81 30 30 := ⟨Tryz.runUnderlying81, Tryz.underlying81⟩
instance ty82 : Ty Tryz.prog 82 true 5 [.pointer none, .int .i64 0, .int .i64 0, .map none, .map none] 40 := ⟨⟨Tryz.t82, _, by kernel_rfl, rfl, rfl, rfl, rfl⟩, Tryz.isAgg82, Tryz.sizeOf82, ⟨_, Tryz.zeroValue82, rfl⟩, ⟨_, Tryz.typeInfo82, rfl⟩⟩
instance hu82 : HasUnd Tryz.prog 82 := ⟨_, Tryz.runUnderlying82⟩
instance ss82 : StTy Tryz.prog 82 [(0, 1, false), (1, 1, false), (2, 1, false), (3, 1, false), (4, 1, false)] := ⟨_, Tryz.runUnderlying82, rfl, fun i off sz ag h => match i, h with
  | 0, h => by simp only [List.getElem?_cons_zero, List.getElem?_cons_succ, Option.some.injEq, Prod.mk.injEq] at h; obtain ⟨rfl, rfl, rfl⟩ := h; exact ⟨_, rfl, rfl, Tryz.sizeOf77, Tryz.isAgg77⟩
  | 1, h => by simp only [List.getElem?_cons_zero, List.getElem?_cons_succ, Option.some.injEq, Prod.mk.injEq] at h; obtain ⟨rfl, rfl, rfl⟩ := h; exact ⟨_, rfl, rfl, Tryz.sizeOf3, Tryz.isAgg3⟩
  | 2, h => by simp only [List.getElem?_cons_zero, List.getElem?_cons_succ, Option.some.injEq, Prod.mk.injEq] at h; obtain ⟨rfl, rfl, rfl⟩ := h; exact ⟨_, rfl, rfl, Tryz.sizeOf3, Tryz.isAgg3⟩
  | 3, h => by simp only [List.getElem?_cons_zero, List.getElem?_cons_succ, Option.some.injEq, Prod.mk.injEq] at h; obtain ⟨rfl, rfl, rfl⟩ := h; exact ⟨_, rfl, rfl, Tryz.sizeOf80, Tryz.isAgg80⟩
  | 4, h => by simp only [List.getElem?_cons_zero, List.getElem?_cons_succ, Option.some.injEq, Prod.mk.injEq] at h; obtain ⟨rfl, rfl, rfl⟩ := h; exact ⟨_, rfl, rfl, Tryz.sizeOf81, Tryz.isAgg81⟩
  | (i + 5), h => by simp at h⟩
instance ty83 : Ty Tryz.prog 83 true 5 [.pointer none, .int .i64 0, .int .i64 0, .map none, .map none] 40 := ⟨⟨Tryz.t83, _, by kernel_rfl, rfl, rfl, rfl, rfl⟩, Tryz.isAgg83, Tryz.sizeOf83, ⟨_, Tryz.zeroValue83, rfl⟩, ⟨_, Tryz.typeInfo83, rfl⟩⟩
instance hu83 : HasUnd Tryz.prog 83 := ⟨_, Tryz.runUnderlying83⟩
instance ss83 : StTy Tryz.prog 83 [(0, 1, false), (1, 1, false), (2, 1, false), (3, 1, false), (4, 1, false)] := ⟨_, Tryz.runUnderlying83, rfl, fun i off sz ag h => match i, h with
  | 0, h => by simp only [List.getElem?_cons_zero, List.getElem?_cons_succ, Option.some.injEq, Prod.mk.injEq] at h; obtain ⟨rfl, rfl, rfl⟩ := h; exact ⟨_, rfl, rfl, Tryz.sizeOf77, Tryz.isAgg77⟩
  | 1, h => by simp only [List.getElem?_cons_zero, List.getElem?_cons_succ, Option.some.injEq, Prod.mk.injEq] at h; obtain ⟨rfl, rfl, rfl⟩ := h; exact ⟨_, rfl, rfl, Tryz.sizeOf3, Tryz.isAgg3⟩
  | 2, h => by simp only [List.getElem?_cons_zero, List.getElem?_cons_succ, Option.some.injEq, Prod.mk.injEq] at h; obtain ⟨rfl, rfl, rfl⟩ := h; exact ⟨_, rfl, rfl, Tryz.sizeOf3, Tryz.isAgg3⟩
  | 3, h => by simp only [List.getElem?_cons_zero, List.getElem?_cons_succ, Option.some.injEq, Prod.mk.injEq] at h; obtain ⟨rfl, rfl, rfl⟩ := h; exact ⟨_, rfl, rfl, Tryz.sizeOf80, Tryz.isAgg80⟩
  | 4, h => by simp only [List.getElem?_cons_zero, List.getElem?_cons_succ, Option.some.injEq, Prod.mk.injEq] at h; obtain ⟨rfl, rfl, rfl⟩ := h; exact ⟨_, rfl, rfl, Tryz.sizeOf81, Tryz.isAgg81⟩
  | (i + 5), h => by simp at h⟩
instance ty84 : Ty Tryz.prog 84 false 1 [.pointer none] 8 := ⟨⟨Tryz.t84, _, by kernel_rfl, rfl, rfl, rfl, rfl⟩, Tryz.isAgg84, Tryz.sizeOf84, ⟨_, Tryz.zeroValue84, rfl⟩, ⟨_, Tryz.typeInfo84, rfl⟩⟩
instance hu84 : HasUnd Tryz.prog 84 := ⟨_, Tryz.runUnderlying84⟩
instance pt84 : PtrTy Tryz.prog 84 88 := ⟨Tryz.runUnderlying84, Tryz.underlying84⟩
instance ty85 : Ty Tryz.prog 85 false 1 [.slice none 0 0] 24 := ⟨⟨Tryz.t85, _, by kernel_rfl, rfl, rfl, rfl, rfl⟩, Tryz.isAgg85, Tryz.sizeOf85, ⟨_, Tryz.zeroValue85, rfl⟩, ⟨_, Tryz.typeInfo85, rfl⟩⟩
instance hu85 : HasUnd Tryz.prog 85 := ⟨_, Tryz.runUnderlying85⟩
instance sl85 : SlTy Tryz.prog 85 173 := ⟨Tryz.runUnderlying85, Tryz.underlying85⟩
instance ty86 : Ty Tryz.prog 86 false 1 [.slice none 0 0] 24 := ⟨⟨Tryz.t86, _, by kernel_rfl, rfl, rfl, rfl, rfl⟩, Tryz.isAgg86, Tryz.sizeOf86, ⟨_, Tryz.zeroValue86, rfl⟩, ⟨_, Tryz.typeInfo86, rfl⟩⟩
instance hu86 : HasUnd Tryz.prog 86 := ⟨_, Tryz.runUnderlying86⟩
instance sl86 : SlTy Tryz.prog 86 177 := ⟨Tryz.runUnderlying86, Tryz.underlying86⟩
instance ty87 : Ty Tryz.prog 87 true 4 [.int .i64 0, .slice none 0 0, .slice none 0 0, .int .u64 0] 64 := ⟨⟨Tryz.t87, _, by kernel_rfl, rfl, rfl, rfl, rfl⟩, Tryz.isAgg87, Tryz.sizeOf87, ⟨_, Tryz.zeroValue87, rfl⟩, ⟨_, Tryz.typeInfo87, rfl⟩⟩
instance hu87 : HasUnd Tryz.prog 87 := ⟨_, Tryz.runUnderlying87⟩
instance ss87 : StTy Tryz.prog 87 [(0, 1, false), (1, 1, false), (2, 1, false), (3, 1, false)] := ⟨_, Tryz.runUnderlying87, rfl, fun i off sz ag h => match i, h with
  | 0, h => by simp only [List.getElem?_cons_zero, List.getElem?_cons_succ, Option.some.injEq, Prod.mk.injEq] at h; obtain ⟨rfl, rfl, rfl⟩ := h; exact ⟨_, rfl, rfl, Tryz.sizeOf3, Tryz.isAgg3⟩
  | 1, h => by simp only [List.getElem?_cons_zero, List.getElem?_cons_succ, Option.some.injEq, Prod.mk.injEq] at h; obtain ⟨rfl, rfl, rfl⟩ := h; exact ⟨_, rfl, rfl, Tryz.sizeOf85, Tryz.isAgg85⟩
  | 2, h => by simp only [List.getElem?_cons_zero, List.getElem?_cons_succ, Option.some.injEq, Prod.mk.injEq] at h; obtain ⟨rfl, rfl, rfl⟩ := h; exact ⟨_, rfl, rfl, Tryz.sizeOf86, Tryz.isAgg86⟩
  | 3, h => by simp only [List.getElem?_cons_zero, List.getElem?_cons_succ, Option.some.injEq, Prod.mk.injEq] at h; obtain ⟨rfl, rfl, rfl⟩ := h; exact ⟨_, rfl, rfl, Tryz.sizeOf30, Tryz.isAgg30⟩
  | (i + 4), h => by simp at h⟩
instance ty88 : Ty Tryz.prog 88 true 4 [.int .i64 0, .slice none 0 0, .slice none 0 0, .int .u64 0] 64 := ⟨⟨Tryz.t88, _, by kernel_rfl, rfl, rfl, rfl, rfl⟩, Tryz.isAgg88, Tryz.sizeOf88, ⟨_, Tryz.zeroValue88, rfl⟩, ⟨_, Tryz.typeInfo88, rfl⟩⟩
instance hu88 : HasUnd Tryz.prog 88 := ⟨_, Tryz.runUnderlying88⟩
instance ss88 : StTy Tryz.prog 88 [(0, 1, false), (1, 1, false), (2, 1, false), (3, 1, false)] := ⟨_, Tryz.runUnderlying88, rfl, fun i off sz ag h => match i, h with
  | 0, h => by simp only [List.getElem?_cons_zero, List.getElem?_cons_succ, Option.some.injEq, Prod.mk.injEq] at h; obtain ⟨rfl, rfl, rfl⟩ := h; exact ⟨_, rfl, rfl, Tryz.sizeOf3, Tryz.isAgg3⟩
  | 1, h => by simp only [List.getElem?_cons_zero, List.getElem?_cons_succ, Option.some.injEq, Prod.mk.injEq] at h; obtain ⟨rfl, rfl, rfl⟩ := h; exact ⟨_, rfl, rfl, Tryz.sizeOf85, Tryz.isAgg85⟩
  | 2, h => by simp only [List.getElem?_cons_zero, List.getElem?_cons_succ, Option.some.injEq, Prod.mk.injEq] at h; obtain ⟨rfl, rfl, rfl⟩ := h; exact ⟨_, rfl, rfl, Tryz.sizeOf86, Tryz.isAgg86⟩
  | 3, h => by simp only [List.getElem?_cons_zero, List.getElem?_cons_succ, Option.some.injEq, Prod.mk.injEq] at h; obtain ⟨rfl, rfl, rfl⟩ := h; exact ⟨_, rfl, rfl, Tryz.sizeOf30, Tryz.isAgg30⟩
  | (i + 4), h => by simp at h⟩
instance ty89 : Ty Tryz.prog 89 false 1 [.slice none 0 0] 24 := ⟨⟨Tryz.t89, _, by kernel_rfl, rfl, rfl, rfl, rfl⟩, Tryz.isAgg89, Tryz.sizeOf89, ⟨_, Tryz.zeroValue89, rfl⟩, ⟨_, Tryz.typeInfo89, rfl⟩⟩
instance hu89 : HasUnd Tryz.prog 89 := ⟨_, Tryz.runUnderlying89⟩
instance sl89 : SlTy Tryz.prog 89 180 := ⟨Tryz.runUnderlying89, Tryz.underlying89⟩
instance ty90 : Ty Tryz.prog 90 false 1 [.slice none 0 0] 24 := ⟨⟨Tryz.t90, _, by kernel_rfl, rfl, rfl, rfl, rfl⟩, Tryz.isAgg90, Tryz.sizeOf90, ⟨_, Tryz.zeroValue90, rfl⟩, ⟨_, Tryz.typeInfo90, rfl⟩⟩
instance hu90 : HasUnd Tryz.prog 90 := ⟨_, Tryz.runUnderlying90⟩
instance sl90 : SlTy Tryz.prog 90 182 := ⟨Tryz.runUnderlying90, Tryz.underlying90⟩
instance ty91 : Ty Tryz.prog 91 true 4 [.int .i64 0, .pointer none, .slice none 0 0, .slice none 0 0] 64 := ⟨⟨Tryz.t91, _, by kernel_rfl, rfl, rfl, rfl, rfl⟩, Tryz.isAgg91, Tryz.sizeOf91, ⟨_, Tryz.zeroValue91, rfl⟩, ⟨_, Tryz.typeInfo91, rfl⟩⟩
instance hu91 : HasUnd Tryz.prog 91 := ⟨_, Tryz.runUnderlying91⟩
instance ss91 : StTy Tryz.prog 91 [(0, 1, false), (1, 1, false), (2, 1, false), (3, 1, false)] := ⟨_, Tryz.runUnderlying91, rfl, fun i off sz ag h => match i, h with
  | 0, h => by simp only [List.getElem?_cons_zero, List.getElem?_cons_succ, Option.some.injEq, Prod.mk.injEq] at h; obtain ⟨rfl, rfl, rfl⟩ := h; exact ⟨_, rfl, rfl, Tryz.sizeOf3, Tryz.isAgg3⟩
  | 1, h => by simp only [List.getElem?_cons_zero, List.getElem?_cons_succ, Option.some.injEq, Prod.mk.injEq] at h; obtain ⟨rfl, rfl, rfl⟩ := h; exact ⟨_, rfl, rfl, Tryz.sizeOf84, Tryz.isAgg84⟩
  | 2, h => by simp only [List.getElem?_cons_zero, List.getElem?_cons_succ, Option.some.injEq, Prod.mk.injEq] at h; obtain ⟨rfl, rfl, rfl⟩ := h; exact ⟨_, rfl, rfl, Tryz.sizeOf89, Tryz.isAgg89⟩
  | 3, h => by simp only [List.getElem?_cons_zero, List.getElem?_cons_succ, Option.some.injEq, Prod.mk.injEq] at h; obtain ⟨rfl, rfl, rfl⟩ := h; exact ⟨_, rfl, rfl, Tryz.sizeOf90, Tryz.isAgg90⟩
  | (i + 4), h => by simp at h⟩
instance ty92 : Ty Tryz.prog 92 true 4 [.int .i64 0, .pointer none, .slice none 0 0, .slice none 0 0] 64 := ⟨⟨Tryz.t92, _, by kernel_rfl, rfl, rfl, rfl, rfl⟩, Tryz.isAgg92, Tryz.sizeOf92, ⟨_, Tryz.zeroValue92, rfl⟩, ⟨_, Tryz.typeInfo92, rfl⟩⟩
instance hu92 : HasUnd Tryz.prog 92 := ⟨_, Tryz.runUnderlying92⟩
instance ss92 : StTy Tryz.prog 92 [(0, 1, false), (1, 1, false), (2, 1, false), (3, 1, false)] := ⟨_, Tryz.runUnderlying92, rfl, fun i off sz ag h => match i, h with
  | 0, h => by simp only [List.getElem?_cons_zero, List.getElem?_cons_succ, Option.some.injEq, Prod.mk.injEq] at h; obtain ⟨rfl, rfl, rfl⟩ := h; exact ⟨_, rfl, rfl, Tryz.sizeOf3, Tryz.isAgg3⟩
  | 1, h => by simp only [List.getElem?_cons_zero, List.getElem?_cons_succ, Option.some.injEq, Prod.mk.injEq] at h; obtain ⟨rfl, rfl, rfl⟩ := h; exact ⟨_, rfl, rfl, Tryz.sizeOf84, Tryz.isAgg84⟩
  | 2, h => by simp only [List.getElem?_cons_zero, List.getElem?_cons_succ, Option.some.injEq, Prod.mk.injEq] at h; obtain ⟨rfl, rfl, rfl⟩ := h; exact ⟨_, rfl, rfl, Tryz.sizeOf89, Tryz.isAgg89⟩
  | 3, h => by simp only [List.getElem?_cons_zero, List.getElem?_cons_succ, Option.some.injEq, Prod.mk.injEq] at h; obtain ⟨rfl, rfl, rfl⟩ := h; exact ⟨_, rfl, rfl, Tryz.sizeOf90, Tryz.isAgg90⟩
  | (i + 4), h => by simp at h⟩
instance ty93 : Ty Tryz.prog 93 false 1 [.nilFunc] 8 := ⟨⟨Tryz.t93, _, by kernel_rfl, rfl, rfl, rfl, rfl⟩, Tryz.isAgg93, Tryz.sizeOf93, ⟨_, Tryz.zeroValue93, rfl⟩, ⟨_, Tryz.typeInfo93, rfl⟩⟩
instance hu93 : HasUnd Tryz.prog 93 := ⟨_, Tryz.runUnderlying93⟩
instance ty94 : Ty Tryz.prog 94 false 1 [.nilFunc] 8 := ⟨⟨Tryz.t94, _, by kernel_rfl, rfl, rfl, rfl, rfl⟩, Tryz.isAgg94, Tryz.sizeOf94, ⟨_, Tryz.zeroValue94, rfl⟩, ⟨_, Tryz.typeInfo94, rfl⟩⟩
instance hu94 : HasUnd Tryz.prog 94 := ⟨_, Tryz.runUnderlying94⟩
instance ty95 : Ty Tryz.prog 95 false 1 [.slice none 0 0] 24 := ⟨⟨Tryz.t95, _, by kernel_rfl, rfl, rfl, rfl, rfl⟩, Tryz.isAgg95, Tryz.sizeOf95, ⟨_, Tryz.zeroValue95, rfl⟩, ⟨_, Tryz.typeInfo95, rfl⟩⟩
instance hu95 : HasUnd Tryz.prog 95 := ⟨_, Tryz.runUnderlying95⟩
instance sl95 : SlTy Tryz.prog 95 36 := ⟨Tryz.runUnderlying95, Tryz.underlying95⟩
instance ty96 : Ty Tryz.prog 96 true 3 [.slice none 0 0, .slice none 0 0, .slice none 0 0] 72 := ⟨⟨Tryz.t96, _, by kernel_rfl, rfl, rfl, rfl, rfl⟩, Tryz.isAgg96, Tryz.sizeOf96, ⟨_, Tryz.zeroValue96, rfl⟩, ⟨_, Tryz.typeInfo96, rfl⟩⟩
instance hu96 : HasUnd Tryz.prog 96 := ⟨_, Tryz.runUnderlying96⟩
instance ss96 : StTy Tryz.prog 96 [(0, 1, false), (1, 1, false), (2, 1, false)] := ⟨_, Tryz.runUnderlying96, rfl, fun i off sz ag h => match i, h with
  | 0, h => by simp only [List.getElem?_cons_zero, List.getElem?_cons_succ, Option.some.injEq, Prod.mk.injEq] at h; obtain ⟨rfl, rfl, rfl⟩ := h; exact ⟨_, rfl, rfl, Tryz.sizeOf95, Tryz.isAgg95⟩
  | 1, h => by simp only [List.getElem?_cons_zero, List.getElem?_cons_succ, Option.some.injEq, Prod.mk.injEq] at h; obtain ⟨rfl, rfl, rfl⟩ := h; exact ⟨_, rfl, rfl, Tryz.sizeOf67, Tryz.isAgg67⟩
  | 2, h => by simp only [List.getElem?_cons_zero, List.getElem?_cons_succ, Option.some.injEq, Prod.mk.injEq] at h; obtain ⟨rfl, rfl, rfl⟩ := h; exact ⟨_, rfl, rfl, Tryz.sizeOf67, Tryz.isAgg67⟩
  | (i + 3), h => by simp at h⟩
instance ty97 : Ty Tryz.prog 97 true 3 [.slice none 0 0, .slice none 0 0, .slice none 0 0] 72 := ⟨⟨Tryz.t97, _, by kernel_rfl, rfl, rfl, rfl, rfl⟩, Tryz.isAgg97, Tryz.sizeOf97, ⟨_, Tryz.zeroValue97, rfl⟩, ⟨_, Tryz.typeInfo97, rfl⟩⟩
instance hu97 : HasUnd Tryz.prog 97 := ⟨_, Tryz.runUnderlying97⟩
instance ss97 : StTy Tryz.prog 97 [(0, 1, false), (1, 1, false), (2, 1, false)] := ⟨_, Tryz.runUnderlying97, rfl, fun i off sz ag h => match i, h with
  | 0, h => by simp only [List.getElem?_cons_zero, List.getElem?_cons_succ, Option.some.injEq, Prod.mk.injEq] at h; obtain ⟨rfl, rfl, rfl⟩ := h; exact ⟨_, rfl, rfl, Tryz.sizeOf95, Tryz.isAgg95⟩
  | 1, h => by simp only [List.getElem?_cons_zero, List.getElem?_cons_succ, Option.some.injEq, Prod.mk.injEq] at h; obtain ⟨rfl, rfl, rfl⟩ := h; exact ⟨_, rfl, rfl, Tryz.sizeOf67, Tryz.isAgg67⟩
  | 2, h => by simp only [List.getElem?_cons_zero, List.getElem?_cons_succ, Option.some.injEq, Prod.mk.injEq] at h; obtain ⟨rfl, rfl, rfl⟩ := h; exact ⟨_, rfl, rfl, Tryz.sizeOf67, Tryz.isAgg67⟩
  | (i + 3), h => by simp at h⟩
instance ty98 : Ty Tryz.prog 98 false 1 [.nilFunc] 8 := ⟨⟨Tryz.t98, _, by kernel_rfl, rfl, rfl, rfl, rfl⟩, Tryz.isAgg98, Tryz.sizeOf98, ⟨_, Tryz.zeroValue98, rfl⟩, ⟨_, Tryz.typeInfo98, rfl⟩⟩
instance hu98 : HasUnd Tryz.prog 98 := ⟨_, Tryz.runUnderlying98⟩
instance ty99 : Ty Tryz.prog 99 false 1 [.nilFunc] 8 := ⟨⟨Tryz.t99, _, by kernel_rfl, rfl, rfl, rfl, rfl⟩, Tryz.isAgg99, Tryz.sizeOf99, ⟨_, Tryz.zeroValue99, rfl⟩, ⟨_, Tryz.typeInfo99, rfl⟩⟩
instance hu99 : HasUnd Tryz.prog 99 := ⟨_, Tryz.runUnderlying99⟩
instance ty100 : Ty Tryz.prog 100 false 1 [.nilFunc] 8 := ⟨⟨Tryz.t100, _, by kernel_rfl, rfl, rfl, rfl, rfl⟩, Tryz.isAgg100, Tryz.sizeOf100, ⟨_, Tryz.zeroValue100, rfl⟩, ⟨_, Tryz.typeInfo100, rfl⟩⟩
instance hu100 : HasUnd Tryz.prog 100 := ⟨_, Tryz.runUnderlying100⟩
instance ty101 : Ty Tryz.prog 101 false 1 [.nilFunc] 8 := ⟨⟨Tryz.t101, _, by kernel_rfl, rfl, rfl, rfl, rfl⟩, Tryz.isAgg101, Tryz.sizeOf101, ⟨_, Tryz.zeroValue101, rfl⟩, ⟨_, Tryz.typeInfo101, rfl⟩⟩
instance hu101 : HasUnd Tryz.prog 101 := ⟨_, Tryz.runUnderlying101⟩
instance ty102 : Ty Tryz.prog 102 false 1 [.nilFunc] 8 := ⟨⟨Tryz.t102, _, by kernel_rfl, rfl, rfl, rfl, rfl⟩, Tryz.isAgg102, Tryz.sizeOf102, ⟨_, Tryz.zeroValue102, rfl⟩, ⟨_, Tryz.typeInfo102, rfl⟩⟩
instance hu102 : HasUnd Tryz.prog 102 := ⟨_, Tryz.runUnderlying102⟩
instance ty103 : Ty Tryz.prog 103 false 1 [.nilFunc] 8 := ⟨⟨Tryz.t103, _, by kernel_rfl, rfl, rfl, rfl, rfl⟩, Tryz.isAgg103, Tryz.sizeOf103, ⟨_, Tryz.zeroValue103, rfl⟩, ⟨_, Tryz.typeInfo103, rfl⟩⟩
instance hu103 : HasUnd Tryz.prog 103 := ⟨_, Tryz.runUnderlying103⟩
instance ty104 : Ty Tryz.prog 104 false 1 [.nilFunc] 8 := ⟨⟨Tryz.t104, _, by kernel_rfl, rfl, rfl, rfl, rfl⟩, Tryz.isAgg104, Tryz.sizeOf104, ⟨_, Tryz.zeroValue104, rfl⟩, ⟨_, Tryz.typeInfo104, rfl⟩⟩
instance hu104 : HasUnd Tryz.prog 104 := ⟨_, Tryz.runUnderlying104⟩
instance ty105 : Ty Tryz.prog 105 false 1 [.nilFunc] 8 := ⟨⟨Tryz.t105, _, by kernel_rfl, rfl, rfl, rfl, rfl⟩, Tryz.isAgg105, Tryz.sizeOf105, ⟨_, Tryz.zeroValue105, rfl⟩, ⟨_, Tryz.typeInfo105, rfl⟩⟩
instance hu105 : HasUnd Tryz.prog 105 := ⟨_, Tryz.runUnderlying105⟩
instance ty106 : Ty Tryz.prog 106 false 1 [.nilFunc] 8 := ⟨⟨Tryz.t106, _, by kernel_rfl, rfl, rfl, rfl, rfl⟩, Tryz.isAgg106, Tryz.sizeOf106, ⟨_, Tryz.zeroValue106, rfl⟩, ⟨_, Tryz.typeInfo106, rfl⟩⟩
instance hu106 : HasUnd Tryz.prog 106 := ⟨_, Tryz.runUnderlying106⟩
instance ty107 : Ty Tryz.prog 107 false 1 [.nilFunc] 8 := ⟨⟨Tryz.t107, _, by kernel_rfl, rfl, rfl, rfl, rfl⟩, Tryz.isAgg107, Tryz.sizeOf107, ⟨_, Tryz.zeroValue107, rfl⟩, ⟨_, Tryz.typeInfo107, rfl⟩⟩
instance hu107 : HasUnd Tryz.prog 107 := ⟨_, Tryz.runUnderlying107⟩
instance ty108 : Ty Tryz.prog 108 false 1 [.nilFunc] 8 := ⟨⟨Tryz.t108, _, by kernel_rfl, rfl, rfl, rfl, rfl⟩, Tryz.isAgg108, Tryz.sizeOf108, ⟨_, Tryz.zeroValue108, rfl⟩, ⟨_, Tryz.typeInfo108, rfl⟩⟩
instance hu108 : HasUnd Tryz.prog 108 := ⟨_, Tryz.runUnderlying108⟩
instance ty109 : Ty Tryz.prog 109 false 1 [.nilFunc] 8 := ⟨⟨Tryz.t109, _, by kernel_rfl, rfl, rfl, rfl, rfl⟩, Tryz.isAgg109, Tryz.sizeOf109, ⟨_, Tryz.zeroValue109, rfl⟩, ⟨_, Tryz.typeInfo109, rfl⟩⟩
instance hu109 : HasUnd Tryz.prog 109 := ⟨_, Tryz.runUnderlying109⟩
instance ty110 : Ty Tryz.prog 110 false 1 [.nilFunc] 8 := ⟨⟨Tryz.t110, _, by kernel_rfl, rfl, rfl, rfl, rfl⟩, Tryz.isAgg110, Tryz.sizeOf110, ⟨_, Tryz.zeroValue110, rfl⟩, ⟨_, Tryz.typeInfo110, rfl⟩⟩
instance hu110 : HasUnd Tryz.prog 110 := ⟨_, Tryz.runUnderlying110⟩
instance ty111 : Ty Tryz.prog 111 false 1 [.slice none 0 0] 24 := ⟨⟨Tryz.t111, _, by kernel_rfl, rfl, rfl, rfl, rfl⟩, Tryz.isAgg111, Tryz.sizeOf111, ⟨_, Tryz.zeroValue111, rfl⟩, ⟨_, Tryz.typeInfo111, rfl⟩⟩
instance hu111 : HasUnd Tryz.prog 111 := ⟨_, Tryz.runUnderlying111⟩
instance sl111 : SlTy Tryz.prog 111 222 := ⟨Tryz.runUnderlying111, Tryz.underlying111⟩
instance ty112 : Ty Tryz.prog 112 false 1 [.nilFunc] 8 := ⟨⟨Tryz.t112, _, by kernel_rfl, rfl, rfl, rfl, rfl⟩, Tryz.isAgg112, Tryz.sizeOf112, ⟨_, Tryz.zeroValue112, rfl⟩, ⟨_, Tryz.typeInfo112, rfl⟩⟩
instance hu112 : HasUnd Tryz.prog 112 := ⟨_, Tryz.runUnderlying112⟩
instance hu113 : HasUnd Tryz.prog 113 := ⟨_, Tryz.runUnderlying113⟩
instance ty114 : Ty Tryz.prog 114 false 1 [.nilFunc] 8 := ⟨⟨Tryz.t114, _, by kernel_rfl, rfl, rfl, rfl, rfl⟩, Tryz.isAgg114, Tryz.sizeOf114, ⟨_, Tryz.zeroValue114, rfl⟩, ⟨_, Tryz.typeInfo114, rfl⟩⟩
instance hu114 : HasUnd Tryz.prog 114 := ⟨_, Tryz.runUnderlying114⟩
instance ty115 : Ty Tryz.prog 115 false 1 [.nilFunc] 8 := ⟨⟨Tryz.t115, _, by kernel_rfl, rfl, rfl, rfl, rfl⟩, Tryz.isAgg115, Tryz.sizeOf115, ⟨_, Tryz.zeroValue115, rfl⟩, ⟨_, Tryz.typeInfo115, rfl⟩⟩
instance hu115 : HasUnd Tryz.prog 115 := ⟨_, Tryz.runUnderlying115⟩
instance ty116 : Ty Tryz.prog 116 false 1 [.nilFunc] 8 := ⟨⟨Tryz.t116, _, by kernel_rfl, rfl, rfl, rfl, rfl⟩, Tryz.isAgg116, Tryz.sizeOf116, ⟨_, Tryz.zeroValue116, rfl⟩, ⟨_, Tryz.typeInfo116, rfl⟩⟩
instance hu116 : HasUnd Tryz.prog 116 := ⟨_, Tryz.runUnderlying116⟩
instance ty117 : Ty Tryz.prog 117 true 3 [.int .u64 0, .int .u64 0, .slice none 0 0] 40 := ⟨⟨Tryz.t117, _, by kernel_rfl, rfl, rfl, rfl, rfl⟩, Tryz.isAgg117, Tryz.sizeOf117, ⟨_, Tryz.zeroValue117, rfl⟩, ⟨_, Tryz.typeInfo117, rfl⟩⟩
instance hu117 : HasUnd Tryz.prog 117 := ⟨_, Tryz.runUnderlying117⟩
instance ss117 : StTy Tryz.prog 117 [(0, 1, false), (1, 1, false), (2, 1, false)] := ⟨_, Tryz.runUnderlying117, rfl, fun i off sz ag h => match i, h with
  | 0, h => by simp only [List.getElem?_cons_zero, List.getElem?_cons_succ, Option.some.injEq, Prod.mk.injEq] at h; obtain ⟨rfl, rfl, rfl⟩ := h; exact ⟨_, rfl, rfl, Tryz.sizeOf30, Tryz.isAgg30⟩
  | 1, h => by simp only [List.getElem?_cons_zero, List.getElem?_cons_succ, Option.some.injEq, Prod.mk.injEq] at h; obtain ⟨rfl, rfl, rfl⟩ := h; exact ⟨_, rfl, rfl, Tryz.sizeOf30, Tryz.isAgg30⟩
  | 2, h => by simp only [List.getElem?_cons_zero, List.getElem?_cons_succ, Option.some.injEq, Prod.mk.injEq] at h; obtain ⟨rfl, rfl, rfl⟩ := h; exact ⟨_, rfl, rfl, Tryz.sizeOf33, Tryz.isAgg33⟩
  | (i + 3), h => by simp at h⟩
instance ty118 : Ty Tryz.prog 118 true 3 [.int .u64 0, .int .u64 0, .slice none 0 0] 40 := ⟨⟨Tryz.t118, _, by kernel_rfl, rfl, rfl, rfl, rfl⟩, Tryz.isAgg118, Tryz.sizeOf118, ⟨_, Tryz.zeroValue118, rfl⟩, ⟨_, Tryz.typeInfo118, rfl⟩⟩
instance hu118 : HasUnd Tryz.prog 118 := ⟨_, Tryz.runUnderlying118⟩
instance ss118 : StTy Tryz.prog 118 [(0, 1, false), (1, 1, false), (2, 1, false)] := ⟨_, Tryz.runUnderlying118, rfl, fun i off sz ag h => match i, h with
  | 0, h => by simp only [List.getElem?_cons_zero, List.getElem?_cons_succ, Option.some.injEq, Prod.mk.injEq] at h; obtain ⟨rfl, rfl, rfl⟩ := h; exact ⟨_, rfl, rfl, Tryz.sizeOf30, Tryz.isAgg30⟩
  | 1, h => by simp only [List.getElem?_cons_zero, List.getElem?_cons_succ, Option.some.injEq, Prod.mk.injEq] at h; obtain ⟨rfl, rfl, rfl⟩ := h; exact ⟨_, rfl, rfl, Tryz.sizeOf30, Tryz.isAgg30⟩
  | 2, h => by simp only [List.getElem?_cons_zero, List.getElem?_cons_succ, Option.some.injEq, Prod.mk.injEq] at h; obtain ⟨rfl, rfl, rfl⟩ := h; exact ⟨_, rfl, rfl, Tryz.sizeOf33, Tryz.isAgg33⟩
  | (i + 3), h => by simp at h⟩
instance ty119 : Ty Tryz.prog 119 false 1 [.pointer none] 8 := ⟨⟨Tryz.t119, _, by kernel_rfl, rfl, rfl, rfl, rfl⟩, Tryz.isAgg119, Tryz.sizeOf119, ⟨_, Tryz.zeroValue119, rfl⟩, ⟨_, Tryz.typeInfo119, rfl⟩⟩
instance hu119 : HasUnd Tryz.prog 119 := ⟨_, Tryz.runUnderlying119⟩
instance pt119 : PtrTy Tryz.prog 119 121 := ⟨Tryz.runUnderlying119, Tryz.underlying119⟩
instance ty120 : Ty Tryz.prog 120 true 1 [.slice none 0 0] 24 := ⟨⟨Tryz.t120, _, by kernel_rfl, rfl, rfl, rfl, rfl⟩, Tryz.isAgg120, Tryz.sizeOf120, ⟨_, Tryz.zeroValue120, rfl⟩, ⟨_, Tryz.typeInfo120, rfl⟩⟩
instance hu120 : HasUnd Tryz.prog 120 := ⟨_, Tryz.runUnderlying120⟩
instance ss120 : StTy Tryz.prog 120 [(0, 1, false)] := ⟨_, Tryz.runUnderlying120, rfl, fun i off sz ag h => match i, h with
  | 0, h => by simp only [List.getElem?_cons_zero, List.getElem?_cons_succ, Option.some.injEq, Prod.mk.injEq] at h; obtain ⟨rfl, rfl, rfl⟩ := h; exact ⟨_, rfl, rfl, Tryz.sizeOf64, Tryz.isAgg64⟩
  | (i + 1), h => by simp at h⟩
instance ty121 : Ty Tryz.prog 121 true 1 [.slice none 0 0] 24 := ⟨⟨Tryz.t121, _, by kernel_rfl, rfl, rfl, rfl, rfl⟩, Tryz.isAgg121, Tryz.sizeOf121, ⟨_, Tryz.zeroValue121, rfl⟩, ⟨_, Tryz.typeInfo121, rfl⟩⟩
instance hu121 : HasUnd Tryz.prog 121 := ⟨_, Tryz.runUnderlying121⟩
instance ss121 : StTy Tryz.prog 121 [(0, 1, false)] := ⟨_, Tryz.runUnderlying121, rfl, fun i off sz ag h => match i, h with
  | 0, h => by simp only [List.getElem?_cons_zero, List.getElem?_cons_succ, Option.some.injEq, Prod.mk.injEq] at h; obtain ⟨rfl, rfl, rfl⟩ := h; exact ⟨_, rfl, rfl, Tryz.sizeOf64, Tryz.isAgg64⟩
  | (i + 1), h => by simp at h⟩
instance ty122 : Ty Tryz.prog 122 false 1 [.slice none 0 0] 24 := ⟨⟨Tryz.t122, _, by kernel_rfl, rfl, rfl, rfl, rfl⟩, Tryz.isAgg122, Tryz.sizeOf122, ⟨_, Tryz.zeroValue122, rfl⟩, ⟨_, Tryz.typeInfo122, rfl⟩⟩
instance hu122 : HasUnd Tryz.prog 122 := ⟨_, Tryz.runUnderlying122⟩
instance sl122 : SlTy Tryz.prog 122 128 := ⟨Tryz.runUnderlying122, Tryz.underlying122⟩
instance ty123 : Ty Tryz.prog 123 false 1 [.nilFunc] 8 := ⟨⟨Tryz.t123, _, by kernel_rfl, rfl, rfl, rfl, rfl⟩, Tryz.isAgg123, Tryz.sizeOf123, ⟨_, Tryz.zeroValue123, rfl⟩, ⟨_, Tryz.typeInfo123, rfl⟩⟩
instance hu123 : HasUnd Tryz.prog 123 := ⟨_, Tryz.runUnderlying123⟩
instance ty124 : Ty Tryz.prog 124 false 1 [.nilFunc] 8 := ⟨⟨Tryz.t124, _, by kernel_rfl, rfl, rfl, rfl, rfl⟩, Tryz.isAgg124, Tryz.sizeOf124, ⟨_, Tryz.zeroValue124, rfl⟩, ⟨_, Tryz.typeInfo124, rfl⟩⟩
instance hu124 : HasUnd Tryz.prog 124 := ⟨_, Tryz.runUnderlying124⟩
instance ty125 : Ty Tryz.prog 125 false 1 [.nilFunc] 8 := ⟨⟨Tryz.t125, _, by kernel_rfl, rfl, rfl, rfl, rfl⟩, Tryz.isAgg125, Tryz.sizeOf125, ⟨_, Tryz.zeroValue125, rfl⟩, ⟨_, Tryz.typeInfo125, rfl⟩⟩
instance hu125 : HasUnd Tryz.prog 125 := ⟨_, Tryz.runUnderlying125⟩
instance ty126 : Ty Tryz.prog 126 false 1 [.slice none 0 0] 24 := ⟨⟨Tryz.t126, _, by kernel_rfl, rfl, rfl, rfl, rfl⟩, Tryz.isAgg126, Tryz.sizeOf126, ⟨_, Tryz.zeroValue126, rfl⟩, ⟨_, Tryz.typeInfo126, rfl⟩⟩
instance hu126 : HasUnd Tryz.prog 126 := ⟨_, Tryz.runUnderlying126⟩
instance sl126 : SlTy Tryz.prog 126 130 := ⟨Tryz.runUnderlying126, Tryz.underlying126⟩
instance ty127 : Ty Tryz.prog 127 true 2 [.int .u64 0, .slice none 0 0] 32 := ⟨⟨Tryz.t127, _, by kernel_rfl, rfl, rfl, rfl, rfl⟩, Tryz.isAgg127, Tryz.sizeOf127, ⟨_, Tryz.zeroValue127, rfl⟩, ⟨_, Tryz.typeInfo127, rfl⟩⟩
instance hu127 : HasUnd Tryz.prog 127 := ⟨_, Tryz.runUnderlying127⟩
instance ss127 : StTy Tryz.prog 127 [(0, 1, false), (1, 1, false)] := ⟨_, Tryz.runUnderlying127, rfl, fun i off sz ag h => match i, h with
  | 0, h => by simp only [List.getElem?_cons_zero, List.getElem?_cons_succ, Option.some.injEq, Prod.mk.injEq] at h; obtain ⟨rfl, rfl, rfl⟩ := h; exact ⟨_, rfl, rfl, Tryz.sizeOf30, Tryz.isAgg30⟩
  | 1, h => by simp only [List.getElem?_cons_zero, List.getElem?_cons_succ, Option.some.injEq, Prod.mk.injEq] at h; obtain ⟨rfl, rfl, rfl⟩ := h; exact ⟨_, rfl, rfl, Tryz.sizeOf126, Tryz.isAgg126⟩
  | (i + 2), h => by simp at h⟩
instance ty128 : Ty Tryz.prog 128 true 2 [.int .u64 0, .slice none 0 0] 32 := ⟨⟨Tryz.t128, _, by kernel_rfl, rfl, rfl, rfl, rfl⟩, Tryz.isAgg128, Tryz.sizeOf128, ⟨_, Tryz.zeroValue128, rfl⟩, ⟨_, Tryz.typeInfo128, rfl⟩⟩
instance hu128 : HasUnd Tryz.prog 128 := ⟨_, Tryz.runUnderlying128⟩
instance ss128 : StTy Tryz.prog 128 [(0, 1, false), (1, 1, false)] := ⟨_, Tryz.runUnderlying128, rfl, fun i off sz ag h => match i, h with
  | 0, h => by simp only [List.getElem?_cons_zero, List.getElem?_cons_succ, Option.some.injEq, Prod.mk.injEq] at h; obtain ⟨rfl, rfl, rfl⟩ := h; exact ⟨_, rfl, rfl, Tryz.sizeOf30, Tryz.isAgg30⟩
  | 1, h => by simp only [List.getElem?_cons_zero, List.getElem?_cons_succ, Option.some.injEq, Prod.mk.injEq] at h; obtain ⟨rfl, rfl, rfl⟩ := h; exact ⟨_, rfl, rfl, Tryz.sizeOf126, Tryz.isAgg126⟩
  | (i + 2), h => by simp at h⟩
instance ty129 : Ty Tryz.prog 129 true 2 [.int .u64 0, .slice none 0 0] 32 := ⟨⟨Tryz.t129, _, by kernel_rfl, rfl, rfl, rfl, rfl⟩, Tryz.isAgg129, Tryz.sizeOf129, ⟨_, Tryz.zeroValue129, rfl⟩, ⟨_, Tryz.typeInfo129, rfl⟩⟩
instance hu129 : HasUnd Tryz.prog 129 := ⟨_, Tryz.runUnderlying129⟩
instance ss129 : StTy Tryz.prog 129 [(0, 1, false), (1, 1, false)] := ⟨_, Tryz.runUnderlying129, rfl, fun i off sz ag h => match i, h with
  | 0, h => by simp only [List.getElem?_cons_zero, List.getElem?_cons_succ, Option.some.injEq, Prod.mk.injEq] at h; obtain ⟨rfl, rfl, rfl⟩ := h; exact ⟨_, rfl, rfl, Tryz.sizeOf30, Tryz.isAgg30⟩
  | 1, h => by simp only [List.getElem?_cons_zero, List.getElem?_cons_succ, Option.some.injEq, Prod.mk.injEq] at h; obtain ⟨rfl, rfl, rfl⟩ := h; exact ⟨_, rfl, rfl, Tryz.sizeOf33, Tryz.isAgg33⟩
  | (i + 2), h => by simp at h⟩
instance ty130 : Ty Tryz.prog 130 true 2 [.int .u64 0, .slice none 0 0] 32 := ⟨⟨Tryz.t130, _, by kernel_rfl, rfl, rfl, rfl, rfl⟩, Tryz.isAgg130, Tryz.sizeOf130, ⟨_, Tryz.zeroValue130, rfl⟩, ⟨_, Tryz.typeInfo130, rfl⟩⟩
instance hu130 : HasUnd Tryz.prog 130 := ⟨_, Tryz.runUnderlying130⟩
instance ss130 : StTy Tryz.prog 130 [(0, 1, false), (1, 1, false)] := ⟨_, Tryz.runUnderlying130, rfl, fun i off sz ag h => match i, h with
  | 0, h => by simp only [List.getElem?_cons_zero, List.getElem?_cons_succ, Option.some.injEq, Prod.mk.injEq] at h; obtain ⟨rfl, rfl, rfl⟩ := h; exact ⟨_, rfl, rfl, Tryz.sizeOf30, Tryz.isAgg30⟩
  | 1, h => by simp only [List.getElem?_cons_zero, List.getElem?_cons_succ, Option.some.injEq, Prod.mk.injEq] at h; obtain ⟨rfl, rfl, rfl⟩ := h; exact ⟨_, rfl, rfl, Tryz.sizeOf33, Tryz.isAgg33⟩
  | (i + 2), h => by simp at h⟩
instance ty131 : Ty Tryz.prog 131 false 1 [.nilFunc] 8 := ⟨⟨Tryz.t131, _, by kernel_rfl, rfl, rfl, rfl, rfl⟩, Tryz.isAgg131, Tryz.sizeOf131, ⟨_, Tryz.zeroValue131, rfl⟩, ⟨_, Tryz.typeInfo131, rfl⟩⟩
instance hu131 : HasUnd Tryz.prog 131 := ⟨_, Tryz.runUnderlying131⟩
instance ty132 : Ty Tryz.prog 132 false 1 [.slice none 0 0] 24 := ⟨⟨Tryz.t132, _, by kernel_rfl, rfl, rfl, rfl, rfl⟩, Tryz.isAgg132, Tryz.sizeOf132, ⟨_, Tryz.zeroValue132, rfl⟩, ⟨_, Tryz.typeInfo132, rfl⟩⟩
instance hu132 : HasUnd Tryz.prog 132 := ⟨_, Tryz.runUnderlying132⟩
instance sl132 : SlTy Tryz.prog 132 30 := ⟨Tryz.runUnderlying132, Tryz.underlying132⟩
instance ty133 : Ty Tryz.prog 133 false 1 [.nilFunc] 8 := ⟨⟨Tryz.t133, _, by kernel_rfl, rfl, rfl, rfl, rfl⟩, Tryz.isAgg133, Tryz.sizeOf133, ⟨_, Tryz.zeroValue133, rfl⟩, ⟨_, Tryz.typeInfo133, rfl⟩⟩
instance hu133 : HasUnd Tryz.prog 133 := ⟨_, Tryz.runUnderlying133⟩
instance ty134 : Ty Tryz.prog 134 true 17 [.int .i64 0, .int .u8 0, .int .u64 0, .int .u64 0, .int .u64 0, .int .u64 0, .int .u64 0, .int .u64 0, .int .u64 0, .int .i64 0, .int .i64 0, .int .i64 0, .int .i64 0, .slice none 0 0, .slice none 0 0, .slice none 0 0, .slice none 0 0] 200 := ⟨⟨Tryz.t134, _, by kernel_rfl, rfl, rfl, rfl, rfl⟩, Tryz.isAgg134, Tryz.sizeOf134, ⟨_, Tryz.zeroValue134, rfl⟩, ⟨_, Tryz.typeInfo134, rfl⟩⟩
instance hu134 : HasUnd Tryz.prog 134 := ⟨_, Tryz.runUnderlying134⟩
instance ss134 : StTy Tryz.prog 134 [(0, 1, false), (1, 16, true)] := ⟨_, Tryz.runUnderlying134, rfl, fun i off sz ag h => match i, h with
  | 0, h => by simp only [List.getElem?_cons_zero, List.getElem?_cons_succ, Option.some.injEq, Prod.mk.injEq] at h; obtain ⟨rfl, rfl, rfl⟩ := h; exact ⟨_, rfl, rfl, Tryz.sizeOf3, Tryz.isAgg3⟩
  | 1, h => by simp only [List.getElem?_cons_zero, List.getElem?_cons_succ, Option.some.injEq, Prod.mk.injEq] at h; obtain ⟨rfl, rfl, rfl⟩ := h; exact ⟨_, rfl, rfl, Tryz.sizeOf36, Tryz.isAgg36⟩
  | (i + 2), h => by simp at h⟩
instance ty135 : Ty Tryz.prog 135 true 17 [.int .i64 0, .int .u8 0, .int .u64 0, .int .u64 0, .int .u64 0, .int .u64 0, .int .u64 0, .int .u64 0, .int .u64 0, .int .i64 0, .int .i64 0, .int .i64 0, .int .i64 0, .slice none 0 0, .slice none 0 0, .slice none 0 0, .slice none 0 0] 200 := ⟨⟨Tryz.t135, _, by kernel_rfl, rfl, rfl, rfl, rfl⟩, Tryz.isAgg135, Tryz.sizeOf135, ⟨_, Tryz.zeroValue135, rfl⟩, ⟨_, Tryz.typeInfo135, rfl⟩⟩
instance hu135 : HasUnd Tryz.prog 135 := ⟨_, Tryz.runUnderlying135⟩
instance ss135 : StTy Tryz.prog 135 [(0, 1, false), (1, 16, true)] := ⟨_, Tryz.runUnderlying135, rfl, fun i off sz ag h => match i, h with
  | 0, h => by simp only [List.getElem?_cons_zero, List.getElem?_cons_succ, Option.some.injEq, Prod.mk.injEq] at h; obtain ⟨rfl, rfl, rfl⟩ := h; exact ⟨_, rfl, rfl, Tryz.sizeOf3, Tryz.isAgg3⟩
  | 1, h => by simp only [List.getElem?_cons_zero, List.getElem?_cons_succ, Option.some.injEq, Prod.mk.injEq] at h; obtain ⟨rfl, rfl, rfl⟩ := h; exact ⟨_, rfl, rfl, Tryz.sizeOf36, Tryz.isAgg36⟩
  | (i + 2), h => by simp at h⟩
instance ty136 : Ty Tryz.prog 136 false 1 [.pointer none] 8 := ⟨⟨Tryz.t136, _, by kernel_rfl, rfl, rfl, rfl, rfl⟩, Tryz.isAgg136, Tryz.sizeOf136, ⟨_, Tryz.zeroValue136, rfl⟩, ⟨_, Tryz.typeInfo136, rfl⟩⟩
instance hu136 : HasUnd Tryz.prog 136 := ⟨_, Tryz.runUnderlying136⟩
instance pt136 : PtrTy Tryz.prog 136 231 := ⟨Tryz.runUnderlying136, Tryz.underlying136⟩
instance ty137 : Ty Tryz.prog 137 false 1 [.nilFunc] 8 := ⟨⟨Tryz.t137, _, by kernel_rfl, rfl, rfl, rfl, rfl⟩, Tryz.isAgg137, Tryz.sizeOf137, ⟨_, Tryz.zeroValue137, rfl⟩, ⟨_, Tryz.typeInfo137, rfl⟩⟩
instance hu137 : HasUnd Tryz.prog 137 := ⟨_, Tryz.runUnderlying137⟩
instance ty138 : Ty Tryz.prog 138 false 1 [.nilFunc] 8 := ⟨⟨Tryz.t138, _, by kernel_rfl, rfl, rfl, rfl, rfl⟩, Tryz.isAgg138, Tryz.sizeOf138, ⟨_, Tryz.zeroValue138, rfl⟩, ⟨_, Tryz.typeInfo138, rfl⟩⟩
instance hu138 : HasUnd Tryz.prog 138 := ⟨_, Tryz.runUnderlying138⟩
instance ty139 : Ty Tryz.prog 139 false 1 [.nilFunc] 8 := ⟨⟨Tryz.t139, _, by kernel_rfl, rfl, rfl, rfl, rfl⟩, Tryz.isAgg139, Tryz.sizeOf139, ⟨_, Tryz.zeroValue139, rfl⟩, ⟨_, Tryz.typeInfo139, rfl⟩⟩
instance hu139 : HasUnd Tryz.prog 139 := ⟨_, Tryz.runUnderlying139⟩
instance ty140 : Ty Tryz.prog 140 false 1 [.slice none 0 0] 24 := ⟨⟨Tryz.t140, _, by kernel_rfl, rfl, rfl, rfl, rfl⟩, Tryz.isAgg140, Tryz.sizeOf140, ⟨_, Tryz.zeroValue140, rfl⟩, ⟨_, Tryz.typeInfo140, rfl⟩⟩
instance hu140 : HasUnd Tryz.prog 140 := ⟨_, Tryz.runUnderlying140⟩
instance sl140 : SlTy Tryz.prog 140 148 := ⟨Tryz.runUnderlying140, Tryz.underlying140⟩
instance ty141 : Ty Tryz.prog 141 false 1 [.nilFunc] 8 := ⟨⟨Tryz.t141, _, by kernel_rfl, rfl, rfl, rfl, rfl⟩, Tryz.isAgg141, Tryz.sizeOf141, ⟨_, Tryz.zeroValue141, rfl⟩, ⟨_, Tryz.typeInfo141, rfl⟩⟩
instance hu141 : HasUnd Tryz.prog 141 := ⟨_, Tryz.runUnderlying141⟩
instance ty142 : Ty Tryz.prog 142 false 1 [.nilFunc] 8 := ⟨⟨Tryz.t142, _, by kernel_rfl, rfl, rfl, rfl, rfl⟩, Tryz.isAgg142, Tryz.sizeOf142, ⟨_, Tryz.zeroValue142, rfl⟩, ⟨_, Tryz.typeInfo142, rfl⟩⟩
instance hu142 : HasUnd Tryz.prog 142 := ⟨_, Tryz.runUnderlying142⟩
instance ty143 : Ty Tryz.prog 143 false 1 [.nilFunc] 8 := ⟨⟨Tryz.t143, _, by kernel_rfl, rfl, rfl, rfl, rfl⟩, Tryz.isAgg143, Tryz.sizeOf143, ⟨_, Tryz.zeroValue143, rfl⟩, ⟨_, Tryz.typeInfo143, rfl⟩⟩
instance hu143 : HasUnd Tryz.prog 143 := ⟨_, Tryz.runUnderlying143⟩
instance ty144 : Ty Tryz.prog 144 false 1 [.nilFunc] 8 := ⟨⟨Tryz.t144, _, by kernel_rfl, rfl, rfl, rfl, rfl⟩, Tryz.isAgg144, Tryz.sizeOf144, ⟨_, Tryz.zeroValue144, rfl⟩, ⟨_, Tryz.typeInfo144, rfl⟩⟩
instance hu144 : HasUnd Tryz.prog 144 := ⟨_, Tryz.runUnderlying144⟩
instance ty145 : Ty Tryz.prog 145 false 1 [.nilFunc] 8 := ⟨⟨Tryz.t145, _, by kernel_rfl, rfl, rfl, rfl, rfl⟩, Tryz.isAgg145, Tryz.sizeOf145, ⟨_, Tryz.zeroValue145, rfl⟩, ⟨_, Tryz.typeInfo145, rfl⟩⟩
instance hu145 : HasUnd Tryz.prog 145 := ⟨_, Tryz.runUnderlying145⟩
instance ty146 : Ty Tryz.prog 146 false 1 [.nilFunc] 8 := ⟨⟨Tryz.t146, _, by kernel_rfl, rfl, rfl, rfl, rfl⟩, Tryz.isAgg146, Tryz.sizeOf146, ⟨_, Tryz.zeroValue146, rfl⟩, ⟨_, Tryz.typeInfo146, rfl⟩⟩
instance hu146 : HasUnd Tryz.prog 146 := ⟨_, Tryz.runUnderlying146⟩
instance ty147 : Ty Tryz.prog 147 true 4 [.int .u64 0, .int .u64 0, .slice none 0 0, .slice none 0 0] 64 := ⟨⟨Tryz.t147, _, by kernel_rfl, rfl, rfl, rfl, rfl⟩, Tryz.isAgg147, Tryz.sizeOf147, ⟨_, Tryz.zeroValue147, rfl⟩, ⟨_, Tryz.typeInfo147, rfl⟩⟩
instance hu147 : HasUnd Tryz.prog 147 := ⟨_, Tryz.runUnderlying147⟩
instance ss147 : StTy Tryz.prog 147 [(0, 3, true), (3, 1, false)] := ⟨_, Tryz.runUnderlying147, rfl, fun i off sz ag h => match i, h with
  | 0, h => by simp only [List.getElem?_cons_zero, List.getElem?_cons_succ, Option.some.injEq, Prod.mk.injEq] at h; obtain ⟨rfl, rfl, rfl⟩ := h; exact ⟨_, rfl, rfl, Tryz.sizeOf44, Tryz.isAgg44⟩
  | 1, h => by simp only [List.getElem?_cons_zero, List.getElem?_cons_succ, Option.some.injEq, Prod.mk.injEq] at h; obtain ⟨rfl, rfl, rfl⟩ := h; exact ⟨_, rfl, rfl, Tryz.sizeOf31, Tryz.isAgg31⟩
  | (i + 2), h => by simp at h⟩
instance ty148 : Ty Tryz.prog 148 true 4 [.int .u64 0, .int .u64 0, .slice none 0 0, .slice none 0 0] 64 := ⟨⟨Tryz.t148, _, by kernel_rfl, rfl, rfl, rfl, rfl⟩, Tryz.isAgg148, Tryz.sizeOf148, ⟨_, Tryz.zeroValue148, rfl⟩, ⟨_, Tryz.typeInfo148, rfl⟩⟩
instance hu148 : HasUnd Tryz.prog 148 := ⟨_, Tryz.runUnderlying148⟩
instance ss148 : StTy Tryz.prog 148 [(0, 3, true), (3, 1, false)] := ⟨_, Tryz.runUnderlying148, rfl, fun i off sz ag h => match i, h with
  | 0, h => by simp only [List.getElem?_cons_zero, List.getElem?_cons_succ, Option.some.injEq, Prod.mk.injEq] at h; obtain ⟨rfl, rfl, rfl⟩ := h; exact ⟨_, rfl, rfl, Tryz.sizeOf44, Tryz.isAgg44⟩
  | 1, h => by simp only [List.getElem?_cons_zero, List.getElem?_cons_succ, Option.some.injEq, Prod.mk.injEq] at h; obtain ⟨rfl, rfl, rfl⟩ := h; exact ⟨_, rfl, rfl, Tryz.sizeOf31, Tryz.isAgg31⟩
  | (i + 2), h => by simp at h⟩
instance ty149 : Ty Tryz.prog 149 false 1 [.nilFunc] 8 := ⟨⟨Tryz.t149, _, by kernel_rfl, rfl, rfl, rfl, rfl⟩, Tryz.isAgg149, Tryz.sizeOf149, ⟨_, Tryz.zeroValue149, rfl⟩, ⟨_, Tryz.typeInfo149, rfl⟩⟩
instance hu149 : HasUnd Tryz.prog 149 := ⟨_, Tryz.runUnderlying149⟩
instance ty150 : Ty Tryz.prog 150 false 1 [.nilFunc] 8 := ⟨⟨Tryz.t150, _, by kernel_rfl, rfl, rfl, rfl, rfl⟩, Tryz.isAgg150, Tryz.sizeOf150, ⟨_, Tryz.zeroValue150, rfl⟩, ⟨_, Tryz.typeInfo150, rfl⟩⟩
instance hu150 : HasUnd Tryz.prog 150 := ⟨_, Tryz.runUnderlying150⟩
instance ty151 : Ty Tryz.prog 151 false 1 [.nilFunc] 8 := ⟨⟨Tryz.t151, _, by kernel_rfl, rfl, rfl, rfl, rfl⟩, Tryz.isAgg151, Tryz.sizeOf151, ⟨_, Tryz.zeroValue151, rfl⟩, ⟨_, Tryz.typeInfo151, rfl⟩⟩
instance hu151 : HasUnd Tryz.prog 151 := ⟨_, Tryz.runUnderlying151⟩
instance ty152 : Ty Tryz.prog 152 false 1 [.nilFunc] 8 := ⟨⟨Tryz.t152, _, by kernel_rfl, rfl, rfl, rfl, rfl⟩, Tryz.isAgg152, Tryz.sizeOf152, ⟨_, Tryz.zeroValue152, rfl⟩, ⟨_, Tryz.typeInfo152, rfl⟩⟩
instance hu152 : HasUnd Tryz.prog 152 := ⟨_, Tryz.runUnderlying152⟩
instance hu153 : HasUnd Tryz.prog 153 := ⟨_, Tryz.runUnderlying153⟩
instance ty154 : Ty Tryz.prog 154 false 1 [.nilFunc] 8 := ⟨⟨Tryz.t154, _, by kernel_rfl, rfl, rfl, rfl, rfl⟩, Tryz.isAgg154, Tryz.sizeOf154, ⟨_, Tryz.zeroValue154, rfl⟩, ⟨_, Tryz.typeInfo154, rfl⟩⟩
instance hu154 : HasUnd Tryz.prog 154 := ⟨_, Tryz.runUnderlying154⟩
instance hu155 : HasUnd Tryz.prog 155 := ⟨_, Tryz.runUnderlying155⟩
instance ty156 : Ty Tryz.prog 156 false 1 [.nilFunc] 8 := ⟨⟨Tryz.t156, _, by kernel_rfl, rfl, rfl, rfl, rfl⟩, Tryz.isAgg156, Tryz.sizeOf156, ⟨_, Tryz.zeroValue156, rfl⟩, ⟨_, Tryz.typeInfo156, rfl⟩⟩
instance hu156 : HasUnd Tryz.prog 156 := ⟨_, Tryz.runUnderlying156⟩
instance hu157 : HasUnd Tryz.prog 157 := ⟨_, Tryz.runUnderlying157⟩
instance ty158 : Ty Tryz.prog 158 false 1 [.nilFunc] 8 := ⟨⟨Tryz.t158, _, by kernel_rfl, rfl, rfl, rfl, rfl⟩, Tryz.isAgg158, Tryz.sizeOf158, ⟨_, Tryz.zeroValue158, rfl⟩, ⟨_, Tryz.typeInfo158, rfl⟩⟩
instance hu158 : HasUnd Tryz.prog 158 := ⟨_, Tryz.runUnderlying158⟩
instance hu159 : HasUnd Tryz.prog 159 := ⟨_, Tryz.runUnderlying159⟩
instance ty160 : Ty Tryz.prog 160 false 1 [.nilFunc] 8 := ⟨⟨Tryz.t160, _, by kernel_rfl, rfl, rfl, rfl, rfl⟩, Tryz.isAgg160, Tryz.sizeOf160, ⟨_, Tryz.zeroValue160, rfl⟩, ⟨_, Tryz.typeInfo160, rfl⟩⟩
instance hu160 : HasUnd Tryz.prog 160 := ⟨_, Tryz.runUnderlying160⟩
instance ty161 : Ty Tryz.prog 161 false 1 [.nilFunc] 8 := ⟨⟨Tryz.t161, _, by kernel_rfl, rfl, rfl, rfl, rfl⟩, Tryz.isAgg161, Tryz.sizeOf161, ⟨_, Tryz.zeroValue161, rfl⟩, ⟨_, Tryz.typeInfo161, rfl⟩⟩
instance hu161 : HasUnd Tryz.prog 161 := ⟨_, Tryz.runUnderlying161⟩
instance ty162 : Ty Tryz.prog 162 false 1 [.nilFunc] 8 := ⟨⟨Tryz.t162, _, by kernel_rfl, rfl, rfl, rfl, rfl⟩, Tryz.isAgg162, Tryz.sizeOf162, ⟨_, Tryz.zeroValue162, rfl⟩, ⟨_, Tryz.typeInfo162, rfl⟩⟩
instance hu162 : HasUnd Tryz.prog 162 := ⟨_, Tryz.runUnderlying162⟩
instance ty163 : Ty Tryz.prog 163 false 1 [.nilFunc] 8 := ⟨⟨Tryz.t163, _, by kernel_rfl, rfl, rfl, rfl, rfl⟩, Tryz.isAgg163, Tryz.sizeOf163, ⟨_, Tryz.zeroValue163, rfl⟩, ⟨_, Tryz.typeInfo163, rfl⟩⟩
instance hu163 : HasUnd Tryz.prog 163 := ⟨_, Tryz.runUnderlying163⟩
instance ty164 : Ty Tryz.prog 164 false 1 [.nilFunc] 8 := ⟨⟨Tryz.t164, _, by kernel_rfl, rfl, rfl, rfl, rfl⟩, Tryz.isAgg164, Tryz.sizeOf164, ⟨_, Tryz.zeroValue164, rfl⟩, ⟨_, Tryz.typeInfo164, rfl⟩⟩
instance hu164 : HasUnd Tryz.prog 164 := ⟨_, Tryz.runUnderlying164⟩
instance ty165 : Ty Tryz.prog 165 false 1 [.nilFunc] 8 := ⟨⟨Tryz.t165, _, by kernel_rfl, rfl, rfl, rfl, rfl⟩, Tryz.isAgg165, Tryz.sizeOf165, ⟨_, Tryz.zeroValue165, rfl⟩, ⟨_, Tryz.typeInfo165, rfl⟩⟩
instance hu165 : HasUnd Tryz.prog 165 := ⟨_, Tryz.runUnderlying165⟩
instance ty166 : Ty Tryz.prog 166 false 1 [.pointer none] 8 := ⟨⟨Tryz.t166, _, by kernel_rfl, rfl, rfl, rfl, rfl⟩, Tryz.isAgg166, Tryz.sizeOf166, ⟨_, Tryz.zeroValue166, rfl⟩, ⟨_, Tryz.typeInfo166, rfl⟩⟩
instance hu166 : HasUnd Tryz.prog 166 := ⟨_, Tryz.runUnderlying166⟩
instance pt166 : PtrTy Tryz.prog 166 168 := ⟨Tryz.runUnderlying166, Tryz.underlying166⟩
instance ty167 : Ty Tryz.prog 167 true 2 [.slice none 0 0, .bool false] 32 := ⟨⟨Tryz.t167, _, by kernel_rfl, rfl, rfl, rfl, rfl⟩, Tryz.isAgg167, Tryz.sizeOf167, ⟨_, Tryz.zeroValue167, rfl⟩, ⟨_, Tryz.typeInfo167, rfl⟩⟩
instance hu167 : HasUnd Tryz.prog 167 := ⟨_, Tryz.runUnderlying167⟩
instance ss167 : StTy Tryz.prog 167 [(0, 1, false), (1, 1, false)] := ⟨_, Tryz.runUnderlying167, rfl, fun i off sz ag h => match i, h with
  | 0, h => by simp only [List.getElem?_cons_zero, List.getElem?_cons_succ, Option.some.injEq, Prod.mk.injEq] at h; obtain ⟨rfl, rfl, rfl⟩ := h; exact ⟨_, rfl, rfl, Tryz.sizeOf64, Tryz.isAgg64⟩
  | 1, h => by simp only [List.getElem?_cons_zero, List.getElem?_cons_succ, Option.some.injEq, Prod.mk.injEq] at h; obtain ⟨rfl, rfl, rfl⟩ := h; exact ⟨_, rfl, rfl, Tryz.sizeOf4, Tryz.isAgg4⟩
  | (i + 2), h => by simp at h⟩
instance ty168 : Ty Tryz.prog 168 true 2 [.slice none 0 0, .bool false] 32 := ⟨⟨Tryz.t168, _, by kernel_rfl, rfl, rfl, rfl, rfl⟩, Tryz.isAgg168, Tryz.sizeOf168, ⟨_, Tryz.zeroValue168, rfl⟩, ⟨_, Tryz.typeInfo168, rfl⟩⟩
instance hu168 : HasUnd Tryz.prog 168 := ⟨_, Tryz.runUnderlying168⟩
instance ss168 : StTy Tryz.prog 168 [(0, 1, false), (1, 1, false)] := ⟨_, Tryz.runUnderlying168, rfl, fun i off sz ag h => match i, h with
  | 0, h => by simp only [List.getElem?_cons_zero, List.getElem?_cons_succ, Option.some.injEq, Prod.mk.injEq] at h; obtain ⟨rfl, rfl, rfl⟩ := h; exact ⟨_, rfl, rfl, Tryz.sizeOf64, Tryz.isAgg64⟩
  | 1, h => by simp only [List.getElem?_cons_zero, List.getElem?_cons_succ, Option.some.injEq, Prod.mk.injEq] at h; obtain ⟨rfl, rfl, rfl⟩ := h; exact ⟨_, rfl, rfl, Tryz.sizeOf4, Tryz.isAgg4⟩
  | (i + 2), h => by simp at h⟩
instance ty169 : Ty Tryz.prog 169 false 1 [.nilFunc] 8 := ⟨⟨Tryz.t169, _, by kernel_rfl, rfl, rfl, rfl, rfl⟩, Tryz.isAgg169, Tryz.sizeOf169, ⟨_, Tryz.zeroValue169, rfl⟩, ⟨_, Tryz.typeInfo169, rfl⟩⟩
instance hu169 : HasUnd Tryz.prog 169 := ⟨_, Tryz.runUnderlying169⟩
instance ty170 : Ty Tryz.prog 170 false 1 [.nilFunc] 8 := ⟨⟨Tryz.t170, _, by kernel_rfl, rfl, rfl, rfl, rfl⟩, Tryz.isAgg170, Tryz.sizeOf170, ⟨_, Tryz.zeroValue170, rfl⟩, ⟨_, Tryz.typeInfo170, rfl⟩⟩
instance hu170 : HasUnd Tryz.prog 170 := ⟨_, Tryz.runUnderlying170⟩
instance ty171 : Ty Tryz.prog 171 false 1 [.slice none 0 0] 24 := ⟨⟨Tryz.t171, _, by kernel_rfl, rfl, rfl, rfl, rfl⟩, Tryz.isAgg171, Tryz.sizeOf171, ⟨_, Tryz.zeroValue171, rfl⟩, ⟨_, Tryz.typeInfo171, rfl⟩⟩
instance hu171 : HasUnd Tryz.prog 171 := ⟨_, Tryz.runUnderlying171⟩
instance sl171 : SlTy Tryz.prog 171 175 := ⟨Tryz.runUnderlying171, Tryz.underlying171⟩
instance ty172 : Ty Tryz.prog 172 true 2 [.int .u64 0, .slice none 0 0] 32 := ⟨⟨Tryz.t172, _, by kernel_rfl, rfl, rfl, rfl, rfl⟩, Tryz.isAgg172, Tryz.sizeOf172, ⟨_, Tryz.zeroValue172, rfl⟩, ⟨_, Tryz.typeInfo172, rfl⟩⟩
instance hu172 : HasUnd Tryz.prog 172 := ⟨_, Tryz.runUnderlying172⟩
instance ss172 : StTy Tryz.prog 172 [(0, 1, false), (1, 1, false)] := ⟨_, Tryz.runUnderlying172, rfl, fun i off sz ag h => match i, h with
  | 0, h => by simp only [List.getElem?_cons_zero, List.getElem?_cons_succ, Option.some.injEq, Prod.mk.injEq] at h; obtain ⟨rfl, rfl, rfl⟩ := h; exact ⟨_, rfl, rfl, Tryz.sizeOf30, Tryz.isAgg30⟩
  | 1, h => by simp only [List.getElem?_cons_zero, List.getElem?_cons_succ, Option.some.injEq, Prod.mk.injEq] at h; obtain ⟨rfl, rfl, rfl⟩ := h; exact ⟨_, rfl, rfl, Tryz.sizeOf171, Tryz.isAgg171⟩
  | (i + 2), h => by simp at h⟩
instance ty173 : Ty Tryz.prog 173 true 2 [.int .u64 0, .slice none 0 0] 32 := ⟨⟨Tryz.t173, _, by kernel_rfl, rfl, rfl, rfl, rfl⟩, Tryz.isAgg173, Tryz.sizeOf173, ⟨_, Tryz.zeroValue173, rfl⟩, ⟨_, Tryz.typeInfo173, rfl⟩⟩
instance hu173 : HasUnd Tryz.prog 173 := ⟨_, Tryz.runUnderlying173⟩
instance ss173 : StTy Tryz.prog 173 [(0, 1, false), (1, 1, false)] := ⟨_, Tryz.runUnderlying173, rfl, fun i off sz ag h => match i, h with
  | 0, h => by simp only [List.getElem?_cons_zero, List.getElem?_cons_succ, Option.some.injEq, Prod.mk.injEq] at h; obtain ⟨rfl, rfl, rfl⟩ := h; exact ⟨_, rfl, rfl, Tryz.sizeOf30, Tryz.isAgg30⟩
  | 1, h => by simp only [List.getElem?_cons_zero, List.getElem?_cons_succ, Option.some.injEq, Prod.mk.injEq] at h; obtain ⟨rfl, rfl, rfl⟩ := h; exact ⟨_, rfl, rfl, Tryz.sizeOf171, Tryz.isAgg171⟩
  | (i + 2), h => by simp at h⟩
instance ty174 : Ty Tryz.prog 174 false 1 [.nilFunc] 8 := ⟨⟨Tryz.t174, _, by kernel_rfl, rfl, rfl, rfl, rfl⟩, Tryz.isAgg174, Tryz.sizeOf174, ⟨_, Tryz.zeroValue174, rfl⟩, ⟨_, Tryz.typeInfo174, rfl⟩⟩
instance hu174 : HasUnd Tryz.prog 174 := ⟨_, Tryz.runUnderlying174⟩
instance ty175 : Ty Tryz.prog 175 true 2 [.int .u64 0, .slice none 0 0] 32 := ⟨⟨Tryz.t175, _, by kernel_rfl, rfl, rfl, rfl, rfl⟩, Tryz.isAgg175, Tryz.sizeOf175, ⟨_, Tryz.zeroValue175, rfl⟩, ⟨_, Tryz.typeInfo175, rfl⟩⟩
instance hu175 : HasUnd Tryz.prog 175 := ⟨_, Tryz.runUnderlying175⟩
instance ss175 : StTy Tryz.prog 175 [(0, 1, false), (1, 1, false)] := ⟨_, Tryz.runUnderlying175, rfl, fun i off sz ag h => match i, h with
  | 0, h => by simp only [List.getElem?_cons_zero, List.getElem?_cons_succ, Option.some.injEq, Prod.mk.injEq] at h; obtain ⟨rfl, rfl, rfl⟩ := h; exact ⟨_, rfl, rfl, Tryz.sizeOf30, Tryz.isAgg30⟩
  | 1, h => by simp only [List.getElem?_cons_zero, List.getElem?_cons_succ, Option.some.injEq, Prod.mk.injEq] at h; obtain ⟨rfl, rfl, rfl⟩ := h; exact ⟨_, rfl, rfl, Tryz.sizeOf33, Tryz.isAgg33⟩
  | (i + 2), h => by simp at h⟩
instance ty176 : Ty Tryz.prog 176 false 1 [.nilFunc] 8 := ⟨⟨Tryz.t176, _, by kernel_rfl, rfl, rfl, rfl, rfl⟩, Tryz.isAgg176, Tryz.sizeOf176, ⟨_, Tryz.zeroValue176, rfl⟩, ⟨_, Tryz.typeInfo176, rfl⟩⟩
instance hu176 : HasUnd Tryz.prog 176 := ⟨_, Tryz.runUnderlying176⟩
instance ty177 : Ty Tryz.prog 177 true 3 [.int .u64 0, .int .u64 0, .slice none 0 0] 40 := ⟨⟨Tryz.t177, _, by kernel_rfl, rfl, rfl, rfl, rfl⟩, Tryz.isAgg177, Tryz.sizeOf177, ⟨_, Tryz.zeroValue177, rfl⟩, ⟨_, Tryz.typeInfo177, rfl⟩⟩
instance hu177 : HasUnd Tryz.prog 177 := ⟨_, Tryz.runUnderlying177⟩
instance ss177 : StTy Tryz.prog 177 [(0, 1, false), (1, 1, false), (2, 1, false)] := ⟨_, Tryz.runUnderlying177, rfl, fun i off sz ag h => match i, h with
  | 0, h => by simp only [List.getElem?_cons_zero, List.getElem?_cons_succ, Option.some.injEq, Prod.mk.injEq] at h; obtain ⟨rfl, rfl, rfl⟩ := h; exact ⟨_, rfl, rfl, Tryz.sizeOf30, Tryz.isAgg30⟩
  | 1, h => by simp only [List.getElem?_cons_zero, List.getElem?_cons_succ, Option.some.injEq, Prod.mk.injEq] at h; obtain ⟨rfl, rfl, rfl⟩ := h; exact ⟨_, rfl, rfl, Tryz.sizeOf30, Tryz.isAgg30⟩
  | 2, h => by simp only [List.getElem?_cons_zero, List.getElem?_cons_succ, Option.some.injEq, Prod.mk.injEq] at h; obtain ⟨rfl, rfl, rfl⟩ := h; exact ⟨_, rfl, rfl, Tryz.sizeOf32, Tryz.isAgg32⟩
  | (i + 3), h => by simp at h⟩
instance ty178 : Ty Tryz.prog 178 false 1 [.nilFunc] 8 := ⟨⟨Tryz.t178, _, by kernel_rfl, rfl, rfl, rfl, rfl⟩, Tryz.isAgg178, Tryz.sizeOf178, ⟨_, Tryz.zeroValue178, rfl⟩, ⟨_, Tryz.typeInfo178, rfl⟩⟩
instance hu178 : HasUnd Tryz.prog 178 := ⟨_, Tryz.runUnderlying178⟩
instance ty179 : Ty Tryz.prog 179 true 2 [.int .u64 0, .slice none 0 0] 32 := ⟨⟨Tryz.t179, _, by kernel_rfl, rfl, rfl, rfl, rfl⟩, Tryz.isAgg179, Tryz.sizeOf179, ⟨_, Tryz.zeroValue179, rfl⟩, ⟨_, Tryz.typeInfo179, rfl⟩⟩
instance hu179 : HasUnd Tryz.prog 179 := ⟨_, Tryz.runUnderlying179⟩
instance ss179 : StTy Tryz.prog 179 [(0, 1, false), (1, 1, false)] := ⟨_, Tryz.runUnderlying179, rfl, fun i off sz ag h => match i, h with
  | 0, h => by simp only [List.getElem?_cons_zero, List.getElem?_cons_succ, Option.some.injEq, Prod.mk.injEq] at h; obtain ⟨rfl, rfl, rfl⟩ := h; exact ⟨_, rfl, rfl, Tryz.sizeOf30, Tryz.isAgg30⟩
  | 1, h => by simp only [List.getElem?_cons_zero, List.getElem?_cons_succ, Option.some.injEq, Prod.mk.injEq] at h; obtain ⟨rfl, rfl, rfl⟩ := h; exact ⟨_, rfl, rfl, Tryz.sizeOf31, Tryz.isAgg31⟩
  | (i + 2), h => by simp at h⟩
instance ty180 : Ty Tryz.prog 180 true 2 [.int .u64 0, .slice none 0 0] 32 := ⟨⟨Tryz.t180, _, by kernel_rfl, rfl, rfl, rfl, rfl⟩, Tryz.isAgg180, Tryz.sizeOf180, ⟨_, Tryz.zeroValue180, rfl⟩, ⟨_, Tryz.typeInfo180, rfl⟩⟩
instance hu180 : HasUnd Tryz.prog 180 := ⟨_, Tryz.runUnderlying180⟩
instance ss180 : StTy Tryz.prog 180 [(0, 1, false), (1, 1, false)] := ⟨_, Tryz.runUnderlying180, rfl, fun i off sz ag h => match i, h with
  | 0, h => by simp only [List.getElem?_cons_zero, List.getElem?_cons_succ, Option.some.injEq, Prod.mk.injEq] at h; obtain ⟨rfl, rfl, rfl⟩ := h; exact ⟨_, rfl, rfl, Tryz.sizeOf30, Tryz.isAgg30⟩
  | 1, h => by simp only [List.getElem?_cons_zero, List.getElem?_cons_succ, Option.some.injEq, Prod.mk.injEq] at h; obtain ⟨rfl, rfl, rfl⟩ := h; exact ⟨_, rfl, rfl, Tryz.sizeOf31, Tryz.isAgg31⟩
  | (i + 2), h => by simp at h⟩
instance ty181 : Ty Tryz.prog 181 true 2 [.int .u64 0, .int .u64 0] 16 := ⟨⟨Tryz.t181, _, by kernel_rfl, rfl, rfl, rfl, rfl⟩, Tryz.isAgg181, Tryz.sizeOf181, ⟨_, Tryz.zeroValue181, rfl⟩, ⟨_, Tryz.typeInfo181, rfl⟩⟩
instance hu181 : HasUnd Tryz.prog 181 := ⟨_, Tryz.runUnderlying181⟩
instance ss181 : StTy Tryz.prog 181 [(0, 1, false), (1, 1, false)] := ⟨_, Tryz.runUnderlying181, rfl, fun i off sz ag h => match i, h with
  | 0, h => by simp only [List.getElem?_cons_zero, List.getElem?_cons_succ, Option.some.injEq, Prod.mk.injEq] at h; obtain ⟨rfl, rfl, rfl⟩ := h; exact ⟨_, rfl, rfl, Tryz.sizeOf30, Tryz.isAgg30⟩
  | 1, h => by simp only [List.getElem?_cons_zero, List.getElem?_cons_succ, Option.some.injEq, Prod.mk.injEq] at h; obtain ⟨rfl, rfl, rfl⟩ := h; exact ⟨_, rfl, rfl, Tryz.sizeOf30, Tryz.isAgg30⟩
  | (i + 2), h => by simp at h⟩
instance ty182 : Ty Tryz.prog 182 true 2 [.int .u64 0, .int .u64 0] 16 := ⟨⟨Tryz.t182, _, by kernel_rfl, rfl, rfl, rfl, rfl⟩, Tryz.isAgg182, Tryz.sizeOf182, ⟨_, Tryz.zeroValue182, rfl⟩, ⟨_, Tryz.typeInfo182, rfl⟩⟩
instance hu182 : HasUnd Tryz.prog 182 := ⟨_, Tryz.runUnderlying182⟩
instance ss182 : StTy Tryz.prog 182 [(0, 1, false), (1, 1, false)] := ⟨_, Tryz.runUnderlying182, rfl, fun i off sz ag h => match i, h with
  | 0, h => by simp only [List.getElem?_cons_zero, List.getElem?_cons_succ, Option.some.injEq, Prod.mk.injEq] at h; obtain ⟨rfl, rfl, rfl⟩ := h; exact ⟨_, rfl, rfl, Tryz.sizeOf30, Tryz.isAgg30⟩
  | 1, h => by simp only [List.getElem?_cons_zero, List.getElem?_cons_succ, Option.some.injEq, Prod.mk.injEq] at h; obtain ⟨rfl, rfl, rfl⟩ := h; exact ⟨_, rfl, rfl, Tryz.sizeOf30, Tryz.isAgg30⟩
  | (i + 2), h => by simp at h⟩
instance ty183 : Ty Tryz.prog 183 false 1 [.nilFunc] 8 := ⟨⟨Tryz.t183, _, by kernel_rfl, rfl, rfl, rfl, rfl⟩, Tryz.isAgg183, Tryz.sizeOf183, ⟨_, Tryz.zeroValue183, rfl⟩, ⟨_, Tryz.typeInfo183, rfl⟩⟩
instance hu183 : HasUnd Tryz.prog 183 := ⟨_, Tryz.runUnderlying183⟩
instance ty184 : Ty Tryz.prog 184 false 1 [.nilFunc] 8 := ⟨⟨Tryz.t184, _, by kernel_rfl, rfl, rfl, rfl, rfl⟩, Tryz.isAgg184, Tryz.sizeOf184, ⟨_, Tryz.zeroValue184, rfl⟩, ⟨_, Tryz.typeInfo184, rfl⟩⟩
instance hu184 : HasUnd Tryz.prog 184 := ⟨_, Tryz.runUnderlying184⟩
instance ty185 : Ty Tryz.prog 185 false 1 [.nilFunc] 8 := ⟨⟨Tryz.t185, _, by kernel_rfl, rfl, rfl, rfl, rfl⟩, Tryz.isAgg185, Tryz.sizeOf185, ⟨_, Tryz.zeroValue185, rfl⟩, ⟨_, Tryz.typeInfo185, rfl⟩⟩
instance hu185 : HasUnd Tryz.prog 185 := ⟨_, Tryz.runUnderlying185⟩
instance ty186 : Ty Tryz.prog 186 false 1 [.map none] 8 := ⟨⟨Tryz.t186, _, by kernel_rfl, rfl, rfl, rfl, rfl⟩, Tryz.isAgg186, Tryz.sizeOf186, ⟨_, Tryz.zeroValue186, rfl⟩, ⟨_, Tryz.typeInfo186, rfl⟩⟩
instance hu186 : HasUnd Tryz.prog 186 := ⟨_, Tryz.runUnderlying186⟩
instance mt186 : MapTy Tryz.prog 186 30 216 := ⟨Tryz.runUnderlying186, Tryz.underlying186⟩
instance ty187 : Ty Tryz.prog 187 false 1 [.map none] 8 := ⟨⟨Tryz.t187, _, by kernel_rfl, rfl, rfl, rfl, rfl⟩, Tryz.isAgg187, Tryz.sizeOf187, ⟨_, Tryz.zeroValue187, rfl⟩, ⟨_, Tryz.typeInfo187, rfl⟩⟩
instance hu187 : HasUnd Tryz.prog 187 := ⟨_, Tryz.runUnderlying187⟩
instance mt187 : MapTy Tryz.prog 187 30 44 := ⟨Tryz.runUnderlying187, Tryz.underlying187⟩
instance ty188 : Ty Tryz.prog 188 true 4 [.int .i64 0, .map none, .map none, .int .u64 0] 32 := ⟨⟨Tryz.t188, _, by kernel_rfl, rfl, rfl, rfl, rfl⟩, Tryz.isAgg188, Tryz.sizeOf188, ⟨_, Tryz.zeroValue188, rfl⟩, ⟨_, Tryz.typeInfo188, rfl⟩⟩
instance hu188 : HasUnd Tryz.prog 188 := ⟨_, Tryz.runUnderlying188⟩
instance ss188 : StTy Tryz.prog 188 [(0, 1, false), (1, 1, false), (2, 1, false), (3, 1, false)] := ⟨_, Tryz.runUnderlying188, rfl, fun i off sz ag h => match i, h with
  | 0, h => by simp only [List.getElem?_cons_zero, List.getElem?_cons_succ, Option.some.injEq, Prod.mk.injEq] at h; obtain ⟨rfl, rfl, rfl⟩ := h; exact ⟨_, rfl, rfl, Tryz.sizeOf3, Tryz.isAgg3⟩
  | 1, h => by simp only [List.getElem?_cons_zero, List.getElem?_cons_succ, Option.some.injEq, Prod.mk.injEq] at h; obtain ⟨rfl, rfl, rfl⟩ := h; exact ⟨_, rfl, rfl, Tryz.sizeOf186, Tryz.isAgg186⟩
  | 2, h => by simp only [List.getElem?_cons_zero, List.getElem?_cons_succ, Option.some.injEq, Prod.mk.injEq] at h; obtain ⟨rfl, rfl, rfl⟩ := h; exact ⟨_, rfl, rfl, Tryz.sizeOf187, Tryz.isAgg187⟩
  | 3, h => by simp only [List.getElem?_cons_zero, List.getElem?_cons_succ, Option.some.injEq, Prod.mk.injEq] at h; obtain ⟨rfl, rfl, rfl⟩ := h; exact ⟨_, rfl, rfl, Tryz.sizeOf30, Tryz.isAgg30⟩
  | (i + 4), h => by simp at h⟩
instance ty189 : Ty Tryz.prog 189 true 4 [.int .i64 0, .map none, .map none, .int .u64 0] 32 := ⟨⟨Tryz.t189, _, by kernel_rfl, rfl, rfl, rfl, rfl⟩, Tryz.isAgg189, Tryz.sizeOf189, ⟨_, Tryz.zeroValue189, rfl⟩, ⟨_, Tryz.typeInfo189, rfl⟩⟩
instance hu189 : HasUnd Tryz.prog 189 := ⟨_, Tryz.runUnderlying189⟩
instance ss189 : StTy Tryz.prog 189 [(0, 1, false), (1, 1, false), (2, 1, false), (3, 1, false)] := ⟨_, Tryz.runUnderlying189, rfl, fun i off sz ag h => match i, h with
  | 0, h => by simp only [List.getElem?_cons_zero, List.getElem?_cons_succ, Option.some.injEq, Prod.mk.injEq] at h; obtain ⟨rfl, rfl, rfl⟩ := h; exact ⟨_, rfl, rfl, Tryz.sizeOf3, Tryz.isAgg3⟩
  | 1, h => by simp only [List.getElem?_cons_zero, List.getElem?_cons_succ, Option.some.injEq, Prod.mk.injEq] at h; obtain ⟨rfl, rfl, rfl⟩ := h; exact ⟨_, rfl, rfl, Tryz.sizeOf186, Tryz.isAgg186⟩
  | 2, h => by simp only [List.getElem?_cons_zero, List.getElem?_cons_succ, Option.some.injEq, Prod.mk.injEq] at h; obtain ⟨rfl, rfl, rfl⟩ := h; exact ⟨_, rfl, rfl, Tryz.sizeOf187, Tryz.isAgg187⟩
  | 3, h => by simp only [List.getElem?_cons_zero, List.getElem?_cons_succ, Option.some.injEq, Prod.mk.injEq] at h; obtain ⟨rfl, rfl, rfl⟩ := h; exact ⟨_, rfl, rfl, Tryz.sizeOf30, Tryz.isAgg30⟩
  | (i + 4), h => by simp at h⟩
instance ty190 : Ty Tryz.prog 190 false 1 [.nilFunc] 8 := ⟨⟨Tryz.t190, _, by kernel_rfl, rfl, rfl, rfl, rfl⟩, Tryz.isAgg190, Tryz.sizeOf190, ⟨_, Tryz.zeroValue190, rfl⟩, ⟨_, Tryz.typeInfo190, rfl⟩⟩
instance hu190 : HasUnd Tryz.prog 190 := ⟨_, Tryz.runUnderlying190⟩
instance ty191 : Ty Tryz.prog 191 false 1 [.nilFunc] 8 := ⟨⟨Tryz.t191, _, by kernel_rfl, rfl, rfl, rfl, rfl⟩, Tryz.isAgg191, Tryz.sizeOf191, ⟨_, Tryz.zeroValue191, rfl⟩, ⟨_, Tryz.typeInfo191, rfl⟩⟩
instance hu191 : HasUnd Tryz.prog 191 := ⟨_, Tryz.runUnderlying191⟩
instance ty192 : Ty Tryz.prog 192 false 1 [.nilFunc] 8 := ⟨⟨Tryz.t192, _, by kernel_rfl, rfl, rfl, rfl, rfl⟩, Tryz.isAgg192, Tryz.sizeOf192, ⟨_, Tryz.zeroValue192, rfl⟩, ⟨_, Tryz.typeInfo192, rfl⟩⟩
instance hu192 : HasUnd Tryz.prog 192 := ⟨_, Tryz.runUnderlying192⟩
instance ty193 : Ty Tryz.prog 193 false 1 [.nilFunc] 8 := ⟨⟨Tryz.t193, _, by kernel_rfl, rfl, rfl, rfl, rfl⟩, Tryz.isAgg193, Tryz.sizeOf193, ⟨_, Tryz.zeroValue193, rfl⟩, ⟨_, Tryz.typeInfo193, rfl⟩⟩
instance hu193 : HasUnd Tryz.prog 193 := ⟨_, Tryz.runUnderlying193⟩
instance ty194 : Ty Tryz.prog 194 false 1 [.nilFunc] 8 := ⟨⟨Tryz.t194, _, by kernel_rfl, rfl, rfl, rfl, rfl⟩, Tryz.isAgg194, Tryz.sizeOf194, ⟨_, Tryz.zeroValue194, rfl⟩, ⟨_, Tryz.typeInfo194, rfl⟩⟩
instance hu194 : HasUnd Tryz.prog 194 := ⟨_, Tryz.runUnderlying194⟩
instance ty195 : Ty Tryz.prog 195 false 1 [.nilFunc] 8 := ⟨⟨Tryz.t195, _, by kernel_rfl, rfl, rfl, rfl, rfl⟩, Tryz.isAgg195, Tryz.sizeOf195, ⟨_, Tryz.zeroValue195, rfl⟩, ⟨_, Tryz.typeInfo195, rfl⟩⟩
instance hu195 : HasUnd Tryz.prog 195 := ⟨_, Tryz.runUnderlying195⟩
instance ty196 : Ty Tryz.prog 196 false 1 [.nilFunc] 8 := ⟨⟨Tryz.t196, _, by kernel_rfl, rfl, rfl, rfl, rfl⟩, Tryz.isAgg196, Tryz.sizeOf196, ⟨_, Tryz.zeroValue196, rfl⟩, ⟨_, Tryz.typeInfo196, rfl⟩⟩
instance hu196 : HasUnd Tryz.prog 196 := ⟨_, Tryz.runUnderlying196⟩
instance ty197 : Ty Tryz.prog 197 false 1 [.nilFunc] 8 := ⟨⟨Tryz.t197, _, by kernel_rfl, rfl, rfl, rfl, rfl⟩, Tryz.isAgg197, Tryz.sizeOf197, ⟨_, Tryz.zeroValue197, rfl⟩, ⟨_, Tryz.typeInfo197, rfl⟩⟩
instance hu197 : HasUnd Tryz.prog 197 := ⟨_, Tryz.runUnderlying197⟩
instance ty198 : Ty Tryz.prog 198 false 1 [.nilFunc] 8 := ⟨⟨Tryz.t198, _, by kernel_rfl, rfl, rfl, rfl, rfl⟩, Tryz.isAgg198, Tryz.sizeOf198, ⟨_, Tryz.zeroValue198, rfl⟩, ⟨_, Tryz.typeInfo198, rfl⟩⟩
instance hu198 : HasUnd Tryz.prog 198 := ⟨_, Tryz.runUnderlying198⟩
instance ty199 : Ty Tryz.prog 199 false 1 [.slice none 0 0] 24 := ⟨⟨Tryz.t199, _, by kernel_rfl, rfl, rfl, rfl, rfl⟩, Tryz.isAgg199, Tryz.sizeOf199, ⟨_, Tryz.zeroValue199, rfl⟩, ⟨_, Tryz.typeInfo199, rfl⟩⟩
instance hu199 : HasUnd Tryz.prog 199 := ⟨_, Tryz.runUnderlying199⟩
instance sl199 : SlTy Tryz.prog 199 254 := ⟨Tryz.runUnderlying199, Tryz.underlying199⟩
instance ty200 : Ty Tryz.prog 200 false 1 [.nilFunc] 8 := ⟨⟨Tryz.t200, _, by kernel_rfl, rfl, rfl, rfl, rfl⟩, Tryz.isAgg200, Tryz.sizeOf200, ⟨_, Tryz.zeroValue200, rfl⟩, ⟨_, Tryz.typeInfo200, rfl⟩⟩
instance hu200 : HasUnd Tryz.prog 200 := ⟨_, Tryz.runUnderlying200⟩
instance ty201 : Ty Tryz.prog 201 false 1 [.nilFunc] 8 := ⟨⟨Tryz.t201, _, by kernel_rfl, rfl, rfl, rfl, rfl⟩, Tryz.isAgg201, Tryz.sizeOf201, ⟨_, Tryz.zeroValue201, rfl⟩, ⟨_, Tryz.typeInfo201, rfl⟩⟩
instance hu201 : HasUnd Tryz.prog 201 := ⟨_, Tryz.runUnderlying201⟩
instance ty202 : Ty Tryz.prog 202 false 1 [.nilFunc] 8 := ⟨⟨Tryz.t202, _, by kernel_rfl, rfl, rfl, rfl, rfl⟩, Tryz.isAgg202, Tryz.sizeOf202, ⟨_, Tryz.zeroValue202, rfl⟩, ⟨_, Tryz.typeInfo202, rfl⟩⟩
instance hu202 : HasUnd Tryz.prog 202 := ⟨_, Tryz.runUnderlying202⟩
instance ty203 : Ty Tryz.prog 203 false 1 [.nilFunc] 8 := ⟨⟨Tryz.t203, _, by kernel_rfl, rfl, rfl, rfl, rfl⟩, Tryz.isAgg203, Tryz.sizeOf203, ⟨_, Tryz.zeroValue203, rfl⟩, ⟨_, Tryz.typeInfo203, rfl⟩⟩
instance hu203 : HasUnd Tryz.prog 203 := ⟨_, Tryz.runUnderlying203⟩
instance ty204 : Ty Tryz.prog 204 false 1 [.nilFunc] 8 := ⟨⟨Tryz.t204, _, by kernel_rfl, rfl, rfl, rfl, rfl⟩, Tryz.isAgg204, Tryz.sizeOf204, ⟨_, Tryz.zeroValue204, rfl⟩, ⟨_, Tryz.typeInfo204, rfl⟩⟩
instance hu204 : HasUnd Tryz.prog 204 := ⟨_, Tryz.runUnderlying204⟩
instance ty205 : Ty Tryz.prog 205 false 1 [.nilFunc] 8 := ⟨⟨Tryz.t205, _, by kernel_rfl, rfl, rfl, rfl, rfl⟩, Tryz.isAgg205, Tryz.sizeOf205, ⟨_, Tryz.zeroValue205, rfl⟩, ⟨_, Tryz.typeInfo205, rfl⟩⟩
instance hu205 : HasUnd Tryz.prog 205 := ⟨_, Tryz.runUnderlying205⟩
instance ty206 : Ty Tryz.prog 206 false 1 [.nilFunc] 8 := ⟨⟨Tryz.t206, _, by kernel_rfl, rfl, rfl, rfl, rfl⟩, Tryz.isAgg206, Tryz.sizeOf206, ⟨_, Tryz.zeroValue206, rfl⟩, ⟨_, Tryz.typeInfo206, rfl⟩⟩
instance hu206 : HasUnd Tryz.prog 206 := ⟨_, Tryz.runUnderlying206⟩
instance ty207 : Ty Tryz.prog 207 false 1 [.nilFunc] 8 := ⟨⟨Tryz.t207, _, by kernel_rfl, rfl, rfl, rfl, rfl⟩, Tryz.isAgg207, Tryz.sizeOf207, ⟨_, Tryz.zeroValue207, rfl⟩, ⟨_, Tryz.typeInfo207, rfl⟩⟩
instance hu207 : HasUnd Tryz.prog 207 := ⟨_, Tryz.runUnderlying207⟩
instance ty208 : Ty Tryz.prog 208 true 2 [.string ⟨#[]⟩, .int .i64 0] 24 := ⟨⟨Tryz.t208, _, by kernel_rfl, rfl, rfl, rfl, rfl⟩, Tryz.isAgg208, Tryz.sizeOf208, ⟨_, Tryz.zeroValue208, rfl⟩, ⟨_, Tryz.typeInfo208, rfl⟩⟩
instance hu208 : HasUnd Tryz.prog 208 := ⟨_, Tryz.runUnderlying208⟩
instance ss208 : StTy Tryz.prog 208 [(0, 1, false), (1, 1, false)] := ⟨_, Tryz.runUnderlying208, rfl, fun i off sz ag h => match i, h with
  | 0, h => by simp only [List.getElem?_cons_zero, List.getElem?_cons_succ, Option.some.injEq, Prod.mk.injEq] at h; obtain ⟨rfl, rfl, rfl⟩ := h; exact ⟨_, rfl, rfl, Tryz.sizeOf9, Tryz.isAgg9⟩
  | 1, h => by simp only [List.getElem?_cons_zero, List.getElem?_cons_succ, Option.some.injEq, Prod.mk.injEq] at h; obtain ⟨rfl, rfl, rfl⟩ := h; exact ⟨_, rfl, rfl, Tryz.sizeOf3, Tryz.isAgg3⟩
  | (i + 2), h => by simp at h⟩
instance ty209 : Ty Tryz.prog 209 true 2 [.string ⟨#[]⟩, .int .i64 0] 24 := ⟨⟨Tryz.t209, _, by kernel_rfl, rfl, rfl, rfl, rfl⟩, Tryz.isAgg209, Tryz.sizeOf209, ⟨_, Tryz.zeroValue209, rfl⟩, ⟨_, Tryz.typeInfo209, rfl⟩⟩
instance hu209 : HasUnd Tryz.prog 209 := ⟨_, Tryz.runUnderlying209⟩
instance ss209 : StTy Tryz.prog 209 [(0, 1, false), (1, 1, false)] := ⟨_, Tryz.runUnderlying209, rfl, fun i off sz ag h => match i, h with
  | 0, h => by simp only [List.getElem?_cons_zero, List.getElem?_cons_succ, Option.some.injEq, Prod.mk.injEq] at h; obtain ⟨rfl, rfl, rfl⟩ := h; exact ⟨_, rfl, rfl, Tryz.sizeOf9, Tryz.isAgg9⟩
  | 1, h => by simp only [List.getElem?_cons_zero, List.getElem?_cons_succ, Option.some.injEq, Prod.mk.injEq] at h; obtain ⟨rfl, rfl, rfl⟩ := h; exact ⟨_, rfl, rfl, Tryz.sizeOf3, Tryz.isAgg3⟩
  | (i + 2), h => by simp at h⟩
instance ty210 : Ty Tryz.prog 210 false 1 [.nilFunc] 8 := ⟨⟨Tryz.t210, _, by kernel_rfl, rfl, rfl, rfl, rfl⟩, Tryz.isAgg210, Tryz.sizeOf210, ⟨_, Tryz.zeroValue210, rfl⟩, ⟨_, Tryz.typeInfo210, rfl⟩⟩
instance hu210 : HasUnd Tryz.prog 210 := ⟨_, Tryz.runUnderlying210⟩
instance ty211 : Ty Tryz.prog 211 false 1 [.nilFunc] 8 := ⟨⟨Tryz.t211, _, by kernel_rfl, rfl, rfl, rfl, rfl⟩, Tryz.isAgg211, Tryz.sizeOf211, ⟨_, Tryz.zeroValue211, rfl⟩, ⟨_, Tryz.typeInfo211, rfl⟩⟩
instance hu211 : HasUnd Tryz.prog 211 := ⟨_, Tryz.runUnderlying211⟩
instance hu212 : HasUnd Tryz.prog 212 := ⟨_, Tryz.runUnderlying212⟩
instance ty213 : Ty Tryz.prog 213 false 1 [.nilFunc] 8 := ⟨⟨Tryz.t213, _, by kernel_rfl, rfl, rfl, rfl, rfl⟩, Tryz.isAgg213, Tryz.sizeOf213, ⟨_, Tryz.zeroValue213, rfl⟩, ⟨_, Tryz.typeInfo213, rfl⟩⟩
instance hu213 : HasUnd Tryz.prog 213 := ⟨_, Tryz.runUnderlying213⟩
instance ty214 : Ty Tryz.prog 214 false 1 [.nilFunc] 8 := ⟨⟨Tryz.t214, _, by kernel_rfl, rfl, rfl, rfl, rfl⟩, Tryz.isAgg214, Tryz.sizeOf214, ⟨_, Tryz.zeroValue214, rfl⟩, ⟨_, Tryz.typeInfo214, rfl⟩⟩
instance hu214 : HasUnd Tryz.prog 214 := ⟨_, Tryz.runUnderlying214⟩
instance ty215 : Ty Tryz.prog 215 false 1 [.nilFunc] 8 := ⟨⟨Tryz.t215, _, by kernel_rfl, rfl, rfl, rfl, rfl⟩, Tryz.isAgg215, Tryz.sizeOf215, ⟨_, Tryz.zeroValue215, rfl⟩, ⟨_, Tryz.typeInfo215, rfl⟩⟩
instance hu215 : HasUnd Tryz.prog 215 := ⟨_, Tryz.runUnderlying215⟩
instance ty216 : Ty Tryz.prog 216 false 1 [.pointer none] 8 := ⟨⟨Tryz.t216, _, by kernel_rfl, rfl, rfl, rfl, rfl⟩, Tryz.isAgg216, Tryz.sizeOf216, ⟨_, Tryz.zeroValue216, rfl⟩, ⟨_, Tryz.typeInfo216, rfl⟩⟩
instance hu216 : HasUnd Tryz.prog 216 := ⟨_, Tryz.runUnderlying216⟩
instance pt216 : PtrTy Tryz.prog 216 262 := ⟨Tryz.runUnderlying216, Tryz.underlying216⟩
instance hu217 : HasUnd Tryz.prog 217 := ⟨_, Tryz.runUnderlying217⟩
instance ty218 : Ty Tryz.prog 218 false 1 [.nilFunc] 8 := ⟨⟨Tryz.t218, _, by kernel_rfl, rfl, rfl, rfl, rfl⟩, Tryz.isAgg218, Tryz.sizeOf218, ⟨_, Tryz.zeroValue218, rfl⟩, ⟨_, Tryz.typeInfo218, rfl⟩⟩
instance hu218 : HasUnd Tryz.prog 218 := ⟨_, Tryz.runUnderlying218⟩
instance ty219 : Ty Tryz.prog 219 false 1 [.nilFunc] 8 := ⟨⟨Tryz.t219, _, by kernel_rfl, rfl, rfl, rfl, rfl⟩, Tryz.isAgg219, Tryz.sizeOf219, ⟨_, Tryz.zeroValue219, rfl⟩, ⟨_, Tryz.typeInfo219, rfl⟩⟩
instance hu219 : HasUnd Tryz.prog 219 := ⟨_, Tryz.runUnderlying219⟩
instance ty220 : Ty Tryz.prog 220 false 1 [.nilFunc] 8 := ⟨⟨Tryz.t220, _, by kernel_rfl, rfl, rfl, rfl, rfl⟩, Tryz.isAgg220, Tryz.sizeOf220, ⟨_, Tryz.zeroValue220, rfl⟩, ⟨_, Tryz.typeInfo220, rfl⟩⟩
instance hu220 : HasUnd Tryz.prog 220 := ⟨_, Tryz.runUnderlying220⟩
instance ty221 : Ty Tryz.prog 221 true 2 [.int .u64 0, .int .u64 0] 16 := ⟨⟨Tryz.t221, _, by kernel_rfl, rfl, rfl, rfl, rfl⟩, Tryz.isAgg221, Tryz.sizeOf221, ⟨_, Tryz.zeroValue221, rfl⟩, ⟨_, Tryz.typeInfo221, rfl⟩⟩
instance hu221 : HasUnd Tryz.prog 221 := ⟨_, Tryz.runUnderlying221⟩
instance ss221 : StTy Tryz.prog 221 [(0, 1, false), (1, 1, false)] := ⟨_, Tryz.runUnderlying221, rfl, fun i off sz ag h => match i, h with
  | 0, h => by simp only [List.getElem?_cons_zero, List.getElem?_cons_succ, Option.some.injEq, Prod.mk.injEq] at h; obtain ⟨rfl, rfl, rfl⟩ := h; exact ⟨_, rfl, rfl, Tryz.sizeOf30, Tryz.isAgg30⟩
  | 1, h => by simp only [List.getElem?_cons_zero, List.getElem?_cons_succ, Option.some.injEq, Prod.mk.injEq] at h; obtain ⟨rfl, rfl, rfl⟩ := h; exact ⟨_, rfl, rfl, Tryz.sizeOf30, Tryz.isAgg30⟩
  | (i + 2), h => by simp at h⟩
instance ty222 : Ty Tryz.prog 222 true 2 [.int .u64 0, .int .u64 0] 16 := ⟨⟨Tryz.t222, _, by kernel_rfl, rfl, rfl, rfl, rfl⟩, Tryz.isAgg222, Tryz.sizeOf222, ⟨_, Tryz.zeroValue222, rfl⟩, ⟨_, Tryz.typeInfo222, rfl⟩⟩
instance hu222 : HasUnd Tryz.prog 222 := ⟨_, Tryz.runUnderlying222⟩
instance ss222 : StTy Tryz.prog 222 [(0, 1, false), (1, 1, false)] := ⟨_, Tryz.runUnderlying222, rfl, fun i off sz ag h => match i, h with
  | 0, h => by simp only [List.getElem?_cons_zero, List.getElem?_cons_succ, Option.some.injEq, Prod.mk.injEq] at h; obtain ⟨rfl, rfl, rfl⟩ := h; exact ⟨_, rfl, rfl, Tryz.sizeOf30, Tryz.isAgg30⟩
  | 1, h => by simp only [List.getElem?_cons_zero, List.getElem?_cons_succ, Option.some.injEq, Prod.mk.injEq] at h; obtain ⟨rfl, rfl, rfl⟩ := h; exact ⟨_, rfl, rfl, Tryz.sizeOf30, Tryz.isAgg30⟩
  | (i + 2), h => by simp at h⟩
instance ty223 : Ty Tryz.prog 223 false 1 [.nilFunc] 8 := ⟨⟨Tryz.t223, _, by kernel_rfl, rfl, rfl, rfl, rfl⟩, Tryz.isAgg223, Tryz.sizeOf223, ⟨_, Tryz.zeroValue223, rfl⟩, ⟨_, Tryz.typeInfo223, rfl⟩⟩
instance hu223 : HasUnd Tryz.prog 223 := ⟨_, Tryz.runUnderlying223⟩
instance ty224 : Ty Tryz.prog 224 false 1 [.nilFunc] 8 := ⟨⟨Tryz.t224, _, by kernel_rfl, rfl, rfl, rfl, rfl⟩, Tryz.isAgg224, Tryz.sizeOf224, ⟨_, Tryz.zeroValue224, rfl⟩, ⟨_, Tryz.typeInfo224, rfl⟩⟩
instance hu224 : HasUnd Tryz.prog 224 := ⟨_, Tryz.runUnderlying224⟩
instance ty225 : Ty Tryz.prog 225 false 1 [.slice none 0 0] 24 := ⟨⟨Tryz.t225, _, by kernel_rfl, rfl, rfl, rfl, rfl⟩, Tryz.isAgg225, Tryz.sizeOf225, ⟨_, Tryz.zeroValue225, rfl⟩, ⟨_, Tryz.typeInfo225, rfl⟩⟩
instance hu225 : HasUnd Tryz.prog 225 := ⟨_, Tryz.runUnderlying225⟩
instance sl225 : SlTy Tryz.prog 225 33 := ⟨Tryz.runUnderlying225, Tryz.underlying225⟩
instance ty226 : Ty Tryz.prog 226 false 1 [.int .u32 0] 4 := ⟨⟨Tryz.t226, _, by kernel_rfl, rfl, rfl, rfl, rfl⟩, Tryz.isAgg226, Tryz.sizeOf226, ⟨_, Tryz.zeroValue226, rfl⟩, ⟨_, Tryz.typeInfo226, rfl⟩⟩
instance hu226 : HasUnd Tryz.prog 226 := ⟨_, Tryz.runUnderlying226⟩
instance it226 : IntTy Tryz.prog 226 .u32 := ⟨Tryz.runUnderlying226, Tryz.underlying226⟩
instance ty227 : Ty Tryz.prog 227 false 1 [.int .u64 0] 8 := ⟨⟨Tryz.t227, _, by kernel_rfl, rfl, rfl, rfl, rfl⟩, Tryz.isAgg227, Tryz.sizeOf227, ⟨_, Tryz.zeroValue227, rfl⟩, ⟨_, Tryz.typeInfo227, rfl⟩⟩
instance hu227 : HasUnd Tryz.prog 227 := ⟨_, Tryz.runUnderlying227⟩
instance it227 : IntTy Tryz.prog 227 .u64 := ⟨Tryz.runUnderlying227, Tryz.underlying227⟩
instance ty228 : Ty Tryz.prog 228 false 1 [.nilFunc] 8 := ⟨⟨Tryz.t228, _, by kernel_rfl, rfl, rfl, rfl, rfl⟩, Tryz.isAgg228, Tryz.sizeOf228, ⟨_, Tryz.zeroValue228, rfl⟩, ⟨_, Tryz.typeInfo228, rfl⟩⟩
instance hu228 : HasUnd Tryz.prog 228 := ⟨_, Tryz.runUnderlying228⟩
instance ty229 : Ty Tryz.prog 229 false 1 [.nilFunc] 8 := ⟨⟨Tryz.t229, _, by kernel_rfl, rfl, rfl, rfl, rfl⟩, Tryz.isAgg229, Tryz.sizeOf229, ⟨_, Tryz.zeroValue229, rfl⟩, ⟨_, Tryz.typeInfo229, rfl⟩⟩
instance hu229 : HasUnd Tryz.prog 229 := ⟨_, Tryz.runUnderlying229⟩
instance ty230 : Ty Tryz.prog 230 true 2 [.slice none 0 0, .int .i64 0] 32 := ⟨⟨Tryz.t230, _, by kernel_rfl, rfl, rfl, rfl, rfl⟩, Tryz.isAgg230, Tryz.sizeOf230, ⟨_, Tryz.zeroValue230, rfl⟩, ⟨_, Tryz.typeInfo230, rfl⟩⟩
instance hu230 : HasUnd Tryz.prog 230 := ⟨_, Tryz.runUnderlying230⟩
instance ss230 : StTy Tryz.prog 230 [(0, 1, false), (1, 1, false)] := ⟨_, Tryz.runUnderlying230, rfl, fun i off sz ag h => match i, h with
  | 0, h => by simp only [List.getElem?_cons_zero, List.getElem?_cons_succ, Option.some.injEq, Prod.mk.injEq] at h; obtain ⟨rfl, rfl, rfl⟩ := h; exact ⟨_, rfl, rfl, Tryz.sizeOf64, Tryz.isAgg64⟩
  | 1, h => by simp only [List.getElem?_cons_zero, List.getElem?_cons_succ, Option.some.injEq, Prod.mk.injEq] at h; obtain ⟨rfl, rfl, rfl⟩ := h; exact ⟨_, rfl, rfl, Tryz.sizeOf25, Tryz.isAgg25⟩
  | (i + 2), h => by simp at h⟩
instance ty231 : Ty Tryz.prog 231 true 2 [.slice none 0 0, .int .i64 0] 32 := ⟨⟨Tryz.t231, _, by kernel_rfl, rfl, rfl, rfl, rfl⟩, Tryz.isAgg231, Tryz.sizeOf231, ⟨_, Tryz.zeroValue231, rfl⟩, ⟨_, Tryz.typeInfo231, rfl⟩⟩
instance hu231 : HasUnd Tryz.prog 231 := ⟨_, Tryz.runUnderlying231⟩
instance ss231 : StTy Tryz.prog 231 [(0, 1, false), (1, 1, false)] := ⟨_, Tryz.runUnderlying231, rfl, fun i off sz ag h => match i, h with
  | 0, h => by simp only [List.getElem?_cons_zero, List.getElem?_cons_succ, Option.some.injEq, Prod.mk.injEq] at h; obtain ⟨rfl, rfl, rfl⟩ := h; exact ⟨_, rfl, rfl, Tryz.sizeOf64, Tryz.isAgg64⟩
  | 1, h => by simp only [List.getElem?_cons_zero, List.getElem?_cons_succ, Option.some.injEq, Prod.mk.injEq] at h; obtain ⟨rfl, rfl, rfl⟩ := h; exact ⟨_, rfl, rfl, Tryz.sizeOf25, Tryz.isAgg25⟩
  | (i + 2), h => by simp at h⟩
instance hu232 : HasUnd Tryz.prog 232 := ⟨_, Tryz.runUnderlying232⟩
instance ty233 : Ty Tryz.prog 233 false 1 [.nilFunc] 8 := ⟨⟨Tryz.t233, _, by kernel_rfl, rfl, rfl, rfl, rfl⟩, Tryz.isAgg233, Tryz.sizeOf233, ⟨_, Tryz.zeroValue233, rfl⟩, ⟨_, Tryz.typeInfo233, rfl⟩⟩
instance hu233 : HasUnd Tryz.prog 233 := ⟨_, Tryz.runUnderlying233⟩
instance ty234 : Ty Tryz.prog 234 false 1 [.nilFunc] 8 := ⟨⟨Tryz.t234, _, by kernel_rfl, rfl, rfl, rfl, rfl⟩, Tryz.isAgg234, Tryz.sizeOf234, ⟨_, Tryz.zeroValue234, rfl⟩, ⟨_, Tryz.typeInfo234, rfl⟩⟩
instance hu234 : HasUnd Tryz.prog 234 := ⟨_, Tryz.runUnderlying234⟩
instance ty235 : Ty Tryz.prog 235 false 1 [.nilFunc] 8 := ⟨⟨Tryz.t235, _, by kernel_rfl, rfl, rfl, rfl, rfl⟩, Tryz.isAgg235, Tryz.sizeOf235, ⟨_, Tryz.zeroValue235, rfl⟩, ⟨_, Tryz.typeInfo235, rfl⟩⟩
instance hu235 : HasUnd Tryz.prog 235 := ⟨_, Tryz.runUnderlying235⟩
instance ty236 : Ty Tryz.prog 236 false 1 [.nilFunc] 8 := ⟨⟨Tryz.t236, _, by kernel_rfl, rfl, rfl, rfl, rfl⟩, Tryz.isAgg236, Tryz.sizeOf236, ⟨_, Tryz.zeroValue236, rfl⟩, ⟨_, Tryz.typeInfo236, rfl⟩⟩
instance hu236 : HasUnd Tryz.prog 236 := ⟨_, Tryz.runUnderlying236⟩
instance ty237 : Ty Tryz.prog 237 false 1 [.nilFunc] 8 := ⟨⟨Tryz.t237, _, by kernel_rfl, rfl, rfl, rfl, rfl⟩, Tryz.isAgg237, Tryz.sizeOf237, ⟨_, Tryz.zeroValue237, rfl⟩, ⟨_, Tryz.typeInfo237, rfl⟩⟩
instance hu237 : HasUnd Tryz.prog 237 := ⟨_, Tryz.runUnderlying237⟩
instance ty238 : Ty Tryz.prog 238 false 1 [.nilFunc] 8 := ⟨⟨Tryz.t238, _, by kernel_rfl, rfl, rfl, rfl, rfl⟩, Tryz.isAgg238, Tryz.sizeOf238, ⟨_, Tryz.zeroValue238, rfl⟩, ⟨_, Tryz.typeInfo238, rfl⟩⟩
instance hu238 : HasUnd Tryz.prog 238 := ⟨_, Tryz.runUnderlying238⟩
instance ty239 : Ty Tryz.prog 239 false 1 [.nilFunc] 8 := ⟨⟨Tryz.t239, _, by kernel_rfl, rfl, rfl, rfl, rfl⟩, Tryz.isAgg239, Tryz.sizeOf239, ⟨_, Tryz.zeroValue239, rfl⟩, ⟨_, Tryz.typeInfo239, rfl⟩⟩
instance hu239 : HasUnd Tryz.prog 239 := ⟨_, Tryz.runUnderlying239⟩
instance ty240 : Ty Tryz.prog 240 false 1 [.nilFunc] 8 := ⟨⟨Tryz.t240, _, by kernel_rfl, rfl, rfl, rfl, rfl⟩, Tryz.isAgg240, Tryz.sizeOf240, ⟨_, Tryz.zeroValue240, rfl⟩, ⟨_, Tryz.typeInfo240, rfl⟩⟩
instance hu240 : HasUnd Tryz.prog 240 := ⟨_, Tryz.runUnderlying240⟩
instance hu241 : HasUnd Tryz.prog 241 := ⟨_, Tryz.runUnderlying241⟩
instance ty242 : Ty Tryz.prog 242 false 1 [.nilFunc] 8 := ⟨⟨Tryz.t242, _, by kernel_rfl, rfl, rfl, rfl, rfl⟩, Tryz.isAgg242, Tryz.sizeOf242, ⟨_, Tryz.zeroValue242, rfl⟩, ⟨_, Tryz.typeInfo242, rfl⟩⟩
instance hu242 : HasUnd Tryz.prog 242 := ⟨_, Tryz.runUnderlying242⟩
instance hu243 : HasUnd Tryz.prog 243 := ⟨_, Tryz.runUnderlying243⟩
instance ty244 : Ty Tryz.prog 244 false 1 [.nilFunc] 8 := ⟨⟨Tryz.t244, _, by kernel_rfl, rfl, rfl, rfl, rfl⟩, Tryz.isAgg244, Tryz.sizeOf244, ⟨_, Tryz.zeroValue244, rfl⟩, ⟨_, Tryz.typeInfo244, rfl⟩⟩
instance hu244 : HasUnd Tryz.prog 244 := ⟨_, Tryz.runUnderlying244⟩
instance hu245 : HasUnd Tryz.prog 245 := ⟨_, Tryz.runUnderlying245⟩
instance ty246 : Ty Tryz.prog 246 false 1 [.nilFunc] 8 := ⟨⟨Tryz.t246, _, by kernel_rfl, rfl, rfl, rfl, rfl⟩, Tryz.isAgg246, Tryz.sizeOf246, ⟨_, Tryz.zeroValue246, rfl⟩, ⟨_, Tryz.typeInfo246, rfl⟩⟩
instance hu246 : HasUnd Tryz.prog 246 := ⟨_, Tryz.runUnderlying246⟩
instance ty247 : Ty Tryz.prog 247 false 1 [.nilFunc] 8 := ⟨⟨Tryz.t247, _, by kernel_rfl, rfl, rfl, rfl, rfl⟩, Tryz.isAgg247, Tryz.sizeOf247, ⟨_, Tryz.zeroValue247, rfl⟩, ⟨_, Tryz.typeInfo247, rfl⟩⟩
instance hu247 : HasUnd Tryz.prog 247 := ⟨_, Tryz.runUnderlying247⟩
instance ty248 : Ty Tryz.prog 248 false 1 [.nilFunc] 8 := ⟨⟨Tryz.t248, _, by kernel_rfl, rfl, rfl, rfl, rfl⟩, Tryz.isAgg248, Tryz.sizeOf248, ⟨_, Tryz.zeroValue248, rfl⟩, ⟨_, Tryz.typeInfo248, rfl⟩⟩
instance hu248 : HasUnd Tryz.prog 248 := ⟨_, Tryz.runUnderlying248⟩
instance ty249 : Ty Tryz.prog 249 false 1 [.nilFunc] 8 := ⟨⟨Tryz.t249, _, by kernel_rfl, rfl, rfl, rfl, rfl⟩, Tryz.isAgg249, Tryz.sizeOf249, ⟨_, Tryz.zeroValue249, rfl⟩, ⟨_, Tryz.typeInfo249, rfl⟩⟩
instance hu249 : HasUnd Tryz.prog 249 := ⟨_, Tryz.runUnderlying249⟩
instance ty250 : Ty Tryz.prog 250 false 1 [.nilFunc] 8 := ⟨⟨Tryz.t250, _, by kernel_rfl, rfl, rfl, rfl, rfl⟩, Tryz.isAgg250, Tryz.sizeOf250, ⟨_, Tryz.zeroValue250, rfl⟩, ⟨_, Tryz.typeInfo250, rfl⟩⟩
instance hu250 : HasUnd Tryz.prog 250 := ⟨_, Tryz.runUnderlying250⟩
instance ty251 : Ty Tryz.prog 251 false 1 [.nilFunc] 8 := ⟨⟨Tryz.t251, _, by kernel_rfl, rfl, rfl, rfl, rfl⟩, Tryz.isAgg251, Tryz.sizeOf251, ⟨_, Tryz.zeroValue251, rfl⟩, ⟨_, Tryz.typeInfo251, rfl⟩⟩
instance hu251 : HasUnd Tryz.prog 251 := ⟨_, Tryz.runUnderlying251⟩
instance hu252 : HasUnd Tryz.prog 252 := ⟨_, Tryz.runUnderlying252⟩
instance ty253 : Ty Tryz.prog 253 false 1 [.nilFunc] 8 := ⟨⟨Tryz.t253, _, by kernel_rfl, rfl, rfl, rfl, rfl⟩, Tryz.isAgg253, Tryz.sizeOf253, ⟨_, Tryz.zeroValue253, rfl⟩, ⟨_, Tryz.typeInfo253, rfl⟩⟩
instance hu253 : HasUnd Tryz.prog 253 := ⟨_, Tryz.runUnderlying253⟩
instance ty254 : Ty Tryz.prog 254 true 2 [.int .u64 0, .int .u64 0] 16 := ⟨⟨Tryz.t254, _, by kernel_rfl, rfl, rfl, rfl, rfl⟩, Tryz.isAgg254, Tryz.sizeOf254, ⟨_, Tryz.zeroValue254, rfl⟩, ⟨_, Tryz.typeInfo254, rfl⟩⟩
instance hu254 : HasUnd Tryz.prog 254 := ⟨_, Tryz.runUnderlying254⟩
instance at254 : ArrTy Tryz.prog 254 2 30 := ⟨Tryz.runUnderlying254, Tryz.underlying254⟩
instance ty255 : Ty Tryz.prog 255 true 46 [.string ⟨#[]⟩, .int .i64 0, .string ⟨#[]⟩, .int .i64 0, .string ⟨#[]⟩, .int .i64 0, .string ⟨#[]⟩, .int .i64 0, .string ⟨#[]⟩, .int .i64 0, .string ⟨#[]⟩, .int .i64 0, .string ⟨#[]⟩, .int .i64 0, .string ⟨#[]⟩, .int .i64 0, .string ⟨#[]⟩, .int .i64 0, .string ⟨#[]⟩, .int .i64 0, .string ⟨#[]⟩, .int .i64 0, .string ⟨#[]⟩, .int .i64 0, .string ⟨#[]⟩, .int .i64 0, .string ⟨#[]⟩, .int .i64 0, .string ⟨#[]⟩, .int .i64 0, .string ⟨#[]⟩, .int .i64 0, .string ⟨#[]⟩, .int .i64 0, .string ⟨#[]⟩, .int .i64 0, .string ⟨#[]⟩, .int .i64 0, .string ⟨#[]⟩, .int .i64 0, .string ⟨#[]⟩, .int .i64 0, .string ⟨#[]⟩, .int .i64 0, .string ⟨#[]⟩, .int .i64 0] 552 := ⟨⟨Tryz.t255, _, by kernel_rfl, rfl, rfl, rfl, rfl⟩, Tryz.isAgg255, Tryz.sizeOf255, ⟨_, Tryz.zeroValue255, rfl⟩, ⟨_, Tryz.typeInfo255, rfl⟩⟩
instance hu255 : HasUnd Tryz.prog 255 := ⟨_, Tryz.runUnderlying255⟩
instance at255 : ArrTy Tryz.prog 255 23 209 := ⟨Tryz.runUnderlying255, Tryz.underlying255⟩
instance ty256 : Ty Tryz.prog 256 true 15 [.bool false, .bool false, .bool false, .bool false, .bool false, .bool false, .bool false, .bool false, .bool false, .bool false, .bool false, .bool false, .bool false, .bool false, .bool false] 15 := ⟨⟨Tryz.t256, _, by kernel_rfl, rfl, rfl, rfl, rfl⟩, Tryz.isAgg256, Tryz.sizeOf256, ⟨_, Tryz.zeroValue256, rfl⟩, ⟨_, Tryz.typeInfo256, rfl⟩⟩
instance hu256 : HasUnd Tryz.prog 256 := ⟨_, Tryz.runUnderlying256⟩
instance at256 : ArrTy Tryz.prog 256 15 4 := ⟨Tryz.runUnderlying256, Tryz.underlying256⟩
instance ty257 : Ty Tryz.prog 257 false 1 [.nilFunc] 8 := ⟨⟨Tryz.t257, _, by kernel_rfl, rfl, rfl, rfl, rfl⟩, Tryz.isAgg257, Tryz.sizeOf257, ⟨_, Tryz.zeroValue257, rfl⟩, ⟨_, Tryz.typeInfo257, rfl⟩⟩
instance hu257 : HasUnd Tryz.prog 257 := ⟨_, Tryz.runUnderlying257⟩
instance ty258 : Ty Tryz.prog 258 false 1 [.nilFunc] 8 := ⟨⟨Tryz.t258, _, by kernel_rfl, rfl, rfl, rfl, rfl⟩, Tryz.isAgg258, Tryz.sizeOf258, ⟨_, Tryz.zeroValue258, rfl⟩, ⟨_, Tryz.typeInfo258, rfl⟩⟩
instance hu258 : HasUnd Tryz.prog 258 := ⟨_, Tryz.runUnderlying258⟩
instance ty259 : Ty Tryz.prog 259 false 1 [.nilFunc] 8 := ⟨⟨Tryz.t259, _, by kernel_rfl, rfl, rfl, rfl, rfl⟩, Tryz.isAgg259, Tryz.sizeOf259, ⟨_, Tryz.zeroValue259, rfl⟩, ⟨_, Tryz.typeInfo259, rfl⟩⟩
instance hu259 : HasUnd Tryz.prog 259 := ⟨_, Tryz.runUnderlying259⟩
instance ty260 : Ty Tryz.prog 260 false 1 [.nilFunc] 8 := ⟨⟨Tryz.t260, _, by kernel_rfl, rfl, rfl, rfl, rfl⟩, Tryz.isAgg260, Tryz.sizeOf260, ⟨_, Tryz.zeroValue260, rfl⟩, ⟨_, Tryz.typeInfo260, rfl⟩⟩
instance hu260 : HasUnd Tryz.prog 260 := ⟨_, Tryz.runUnderlying260⟩
instance ty261 : Ty Tryz.prog 261 true 1 [.slice none 0 0] 24 := ⟨⟨Tryz.t261, _, by kernel_rfl, rfl, rfl, rfl, rfl⟩, Tryz.isAgg261, Tryz.sizeOf261, ⟨_, Tryz.zeroValue261, rfl⟩, ⟨_, Tryz.typeInfo261, rfl⟩⟩
instance hu261 : HasUnd Tryz.prog 261 := ⟨_, Tryz.runUnderlying261⟩
instance ss261 : StTy Tryz.prog 261 [(0, 1, false)] := ⟨_, Tryz.runUnderlying261, rfl, fun i off sz ag h => match i, h with
  | 0, h => by simp only [List.getElem?_cons_zero, List.getElem?_cons_succ, Option.some.injEq, Prod.mk.injEq] at h; obtain ⟨rfl, rfl, rfl⟩ := h; exact ⟨_, rfl, rfl, Tryz.sizeOf126, Tryz.isAgg126⟩
  | (i + 1), h => by simp at h⟩
instance ty262 : Ty Tryz.prog 262 true 1 [.slice none 0 0] 24 := ⟨⟨Tryz.t262, _, by kernel_rfl, rfl, rfl, rfl, rfl⟩, Tryz.isAgg262, Tryz.sizeOf262, ⟨_, Tryz.zeroValue262, rfl⟩, ⟨_, Tryz.typeInfo262, rfl⟩⟩
instance hu262 : HasUnd Tryz.prog 262 := ⟨_, Tryz.runUnderlying262⟩
instance ss262 : StTy Tryz.prog 262 [(0, 1, false)] := ⟨_, Tryz.runUnderlying262, rfl, fun i off sz ag h => match i, h with
  | 0, h => by simp only [List.getElem?_cons_zero, List.getElem?_cons_succ, Option.some.injEq, Prod.mk.injEq] at h; obtain ⟨rfl, rfl, rfl⟩ := h; exact ⟨_, rfl, rfl, Tryz.sizeOf126, Tryz.isAgg126⟩
  | (i + 1), h => by simp at h⟩
instance ty263 : Ty Tryz.prog 263 false 1 [.nilFunc] 8 := ⟨⟨Tryz.t263, _, by kernel_rfl, rfl, rfl, rfl, rfl⟩, Tryz.isAgg263, Tryz.sizeOf263, ⟨_, Tryz.zeroValue263, rfl⟩, ⟨_, Tryz.typeInfo263, rfl⟩⟩
instance hu263 : HasUnd Tryz.prog 263 := ⟨_, Tryz.runUnderlying263⟩
instance ty264 : Ty Tryz.prog 264 false 1 [.nilFunc] 8 := ⟨⟨Tryz.t264, _, by kernel_rfl, rfl, rfl, rfl, rfl⟩, Tryz.isAgg264, Tryz.sizeOf264, ⟨_, Tryz.zeroValue264, rfl⟩, ⟨_, Tryz.typeInfo264, rfl⟩⟩
instance hu264 : HasUnd Tryz.prog 264 := ⟨_, Tryz.runUnderlying264⟩
instance ty265 : Ty Tryz.prog 265 false 1 [.nilFunc] 8 := ⟨⟨Tryz.t265, _, by kernel_rfl, rfl, rfl, rfl, rfl⟩, Tryz.isAgg265, Tryz.sizeOf265, ⟨_, Tryz.zeroValue265, rfl⟩, ⟨_, Tryz.typeInfo265, rfl⟩⟩
instance hu265 : HasUnd Tryz.prog 265 := ⟨_, Tryz.runUnderlying265⟩
instance ty266 : Ty Tryz.prog 266 false 1 [.nilFunc] 8 := ⟨⟨Tryz.t266, _, by kernel_rfl, rfl, rfl, rfl, rfl⟩, Tryz.isAgg266, Tryz.sizeOf266, ⟨_, Tryz.zeroValue266, rfl⟩, ⟨_, Tryz.typeInfo266, rfl⟩⟩
instance hu266 : HasUnd Tryz.prog 266 := ⟨_, Tryz.runUnderlying266⟩
instance ty267 : Ty Tryz.prog 267 false 1 [.nilFunc] 8 := ⟨⟨Tryz.t267, _, by kernel_rfl, rfl, rfl, rfl, rfl⟩, Tryz.isAgg267, Tryz.sizeOf267, ⟨_, Tryz.zeroValue267, rfl⟩, ⟨_, Tryz.typeInfo267, rfl⟩⟩
instance hu267 : HasUnd Tryz.prog 267 := ⟨_, Tryz.runUnderlying267⟩
instance hu268 : HasUnd Tryz.prog 268 := ⟨_, Tryz.runUnderlying268⟩
instance ty269 : Ty Tryz.prog 269 false 1 [.nilFunc] 8 := ⟨⟨Tryz.t269, _, by kernel_rfl, rfl, rfl, rfl, rfl⟩, Tryz.isAgg269, Tryz.sizeOf269, ⟨_, Tryz.zeroValue269, rfl⟩, ⟨_, Tryz.typeInfo269, rfl⟩⟩
instance hu269 : HasUnd Tryz.prog 269 := ⟨_, Tryz.runUnderlying269⟩
instance ty270 : Ty Tryz.prog 270 false 1 [.nilFunc] 8 := ⟨⟨Tryz.t270, _, by kernel_rfl, rfl, rfl, rfl, rfl⟩, Tryz.isAgg270, Tryz.sizeOf270, ⟨_, Tryz.zeroValue270, rfl⟩, ⟨_, Tryz.typeInfo270, rfl⟩⟩
instance hu270 : HasUnd Tryz.prog 270 := ⟨_, Tryz.runUnderlying270⟩
instance ty271 : Ty Tryz.prog 271 false 1 [.nilFunc] 8 := ⟨⟨Tryz.t271, _, by kernel_rfl, rfl, rfl, rfl, rfl⟩, Tryz.isAgg271, Tryz.sizeOf271, ⟨_, Tryz.zeroValue271, rfl⟩, ⟨_, Tryz.typeInfo271, rfl⟩⟩
instance hu271 : HasUnd Tryz.prog 271 := ⟨_, Tryz.runUnderlying271⟩
instance ty272 : Ty Tryz.prog 272 false 1 [.nilFunc] 8 := ⟨⟨Tryz.t272, _, by kernel_rfl, rfl, rfl, rfl, rfl⟩, Tryz.isAgg272, Tryz.sizeOf272, ⟨_, Tryz.zeroValue272, rfl⟩, ⟨_, Tryz.typeInfo272, rfl⟩⟩
instance hu272 : HasUnd Tryz.prog 272 := ⟨_, Tryz.runUnderlying272⟩
instance ty273 : Ty Tryz.prog 273 false 1 [.nilFunc] 8 := ⟨⟨Tryz.t273, _, by kernel_rfl, rfl, rfl, rfl, rfl⟩, Tryz.isAgg273, Tryz.sizeOf273, ⟨_, Tryz.zeroValue273, rfl⟩, ⟨_, Tryz.typeInfo273, rfl⟩⟩
instance hu273 : HasUnd Tryz.prog 273 := ⟨_, Tryz.runUnderlying273⟩
instance ty274 : Ty Tryz.prog 274 false 1 [.nilFunc] 8 := ⟨⟨Tryz.t274, _, by kernel_rfl, rfl, rfl, rfl, rfl⟩, Tryz.isAgg274, Tryz.sizeOf274, ⟨_, Tryz.zeroValue274, rfl⟩, ⟨_, Tryz.typeInfo274, rfl⟩⟩
instance hu274 : HasUnd Tryz.prog 274 := ⟨_, Tryz.runUnderlying274⟩
instance hu275 : HasUnd Tryz.prog 275 := ⟨_, Tryz.runUnderlying275⟩
instance ty276 : Ty Tryz.prog 276 false 1 [.nilFunc] 8 := ⟨⟨Tryz.t276, _, by kernel_rfl, rfl, rfl, rfl, rfl⟩, Tryz.isAgg276, Tryz.sizeOf276, ⟨_, Tryz.zeroValue276, rfl⟩, ⟨_, Tryz.typeInfo276, rfl⟩⟩
instance hu276 : HasUnd Tryz.prog 276 := ⟨_, Tryz.runUnderlying276⟩
instance ty277 : Ty Tryz.prog 277 false 1 [.nilFunc] 8 := ⟨⟨Tryz.t277, _, by kernel_rfl, rfl, rfl, rfl, rfl⟩, Tryz.isAgg277, Tryz.sizeOf277, ⟨_, Tryz.zeroValue277, rfl⟩, ⟨_, Tryz.typeInfo277, rfl⟩⟩
instance hu277 : HasUnd Tryz.prog 277 := ⟨_, Tryz.runUnderlying277⟩
instance ty278 : Ty Tryz.prog 278 false 1 [.nilFunc] 8 := ⟨⟨Tryz.t278, _, by kernel_rfl, rfl, rfl, rfl, rfl⟩, Tryz.isAgg278, Tryz.sizeOf278, ⟨_, Tryz.zeroValue278, rfl⟩, ⟨_, Tryz.typeInfo278, rfl⟩⟩
instance hu278 : HasUnd Tryz.prog 278 := ⟨_, Tryz.runUnderlying278⟩
instance ty279 : Ty Tryz.prog 279 false 1 [.nilFunc] 8 := ⟨⟨Tryz.t279, _, by kernel_rfl, rfl, rfl, rfl, rfl⟩, Tryz.isAgg279, Tryz.sizeOf279, ⟨_, Tryz.zeroValue279, rfl⟩, ⟨_, Tryz.typeInfo279, rfl⟩⟩
instance hu279 : HasUnd Tryz.prog 279 := ⟨_, Tryz.runUnderlying279⟩
instance ty280 : Ty Tryz.prog 280 false 1 [.nilFunc] 8 := ⟨⟨Tryz.t280, _, by kernel_rfl, rfl, rfl, rfl, rfl⟩, Tryz.isAgg280, Tryz.sizeOf280, ⟨_, Tryz.zeroValue280, rfl⟩, ⟨_, Tryz.typeInfo280, rfl⟩⟩
instance hu280 : HasUnd Tryz.prog 280 := ⟨_, Tryz.runUnderlying280⟩
instance ty281 : Ty Tryz.prog 281 false 1 [.nilFunc] 8 := ⟨⟨Tryz.t281, _, by kernel_rfl, rfl, rfl, rfl, rfl⟩, Tryz.isAgg281, Tryz.sizeOf281, ⟨_, Tryz.zeroValue281, rfl⟩, ⟨_, Tryz.typeInfo281, rfl⟩⟩
instance hu281 : HasUnd Tryz.prog 281 := ⟨_, Tryz.runUnderlying281⟩
instance ty282 : Ty Tryz.prog 282 false 1 [.nilFunc] 8 := ⟨⟨Tryz.t282, _, by kernel_rfl, rfl, rfl, rfl, rfl⟩, Tryz.isAgg282, Tryz.sizeOf282, ⟨_, Tryz.zeroValue282, rfl⟩, ⟨_, Tryz.typeInfo282, rfl⟩⟩
instance hu282 : HasUnd Tryz.prog 282 := ⟨_, Tryz.runUnderlying282⟩
instance ty283 : Ty Tryz.prog 283 false 1 [.nilFunc] 8 := ⟨⟨Tryz.t283, _, by kernel_rfl, rfl, rfl, rfl, rfl⟩, Tryz.isAgg283, Tryz.sizeOf283, ⟨_, Tryz.zeroValue283, rfl⟩, ⟨_, Tryz.typeInfo283, rfl⟩⟩
instance hu283 : HasUnd Tryz.prog 283 := ⟨_, Tryz.runUnderlying283⟩
instance ty284 : Ty Tryz.prog 284 false 1 [.nilFunc] 8 := ⟨⟨Tryz.t284, _, by kernel_rfl, rfl, rfl, rfl, rfl⟩, Tryz.isAgg284, Tryz.sizeOf284, ⟨_, Tryz.zeroValue284, rfl⟩, ⟨_, Tryz.typeInfo284, rfl⟩⟩
instance hu284 : HasUnd Tryz.prog 284 := ⟨_, Tryz.runUnderlying284⟩
instance ty285 : Ty Tryz.prog 285 false 1 [.nilFunc] 8 := ⟨⟨Tryz.t285, _, by kernel_rfl, rfl, rfl, rfl, rfl⟩, Tryz.isAgg285, Tryz.sizeOf285, ⟨_, Tryz.zeroValue285, rfl⟩, ⟨_, Tryz.typeInfo285, rfl⟩⟩
instance hu285 : HasUnd Tryz.prog 285 := ⟨_, Tryz.runUnderlying285⟩
instance ty286 : Ty Tryz.prog 286 false 1 [.nilFunc] 8 := ⟨⟨Tryz.t286, _, by kernel_rfl, rfl, rfl, rfl, rfl⟩, Tryz.isAgg286, Tryz.sizeOf286, ⟨_, Tryz.zeroValue286, rfl⟩, ⟨_, Tryz.typeInfo286, rfl⟩⟩
instance hu286 : HasUnd Tryz.prog 286 := ⟨_, Tryz.runUnderlying286⟩
instance ty287 : Ty Tryz.prog 287 false 1 [.nilFunc] 8 := ⟨⟨Tryz.t287, _, by kernel_rfl, rfl, rfl, rfl, rfl⟩, Tryz.isAgg287, Tryz.sizeOf287, ⟨_, Tryz.zeroValue287, rfl⟩, ⟨_, Tryz.typeInfo287, rfl⟩⟩
instance hu287 : HasUnd Tryz.prog 287 := ⟨_, Tryz.runUnderlying287⟩
instance ty288 : Ty Tryz.prog 288 false 1 [.nilFunc] 8 := ⟨⟨Tryz.t288, _, by kernel_rfl, rfl, rfl, rfl, rfl⟩, Tryz.isAgg288, Tryz.sizeOf288, ⟨_, Tryz.zeroValue288, rfl⟩, ⟨_, Tryz.typeInfo288, rfl⟩⟩
instance hu288 : HasUnd Tryz.prog 288 := ⟨_, Tryz.runUnderlying288⟩
instance ty289 : Ty Tryz.prog 289 false 1 [.int .i64 0] 8 := ⟨⟨Tryz.t289, _, by kernel_rfl, rfl, rfl, rfl, rfl⟩, Tryz.isAgg289, Tryz.sizeOf289, ⟨_, Tryz.zeroValue289, rfl⟩, ⟨_, Tryz.typeInfo289, rfl⟩⟩
instance hu289 : HasUnd Tryz.prog 289 := ⟨_, Tryz.runUnderlying289⟩
instance it289 : IntTy Tryz.prog 289 .i64 := ⟨Tryz.runUnderlying289, Tryz.underlying289⟩
instance hu290 : HasUnd Tryz.prog 290 := ⟨_, Tryz.runUnderlying290⟩
instance ty291 : Ty Tryz.prog 291 false 1 [.nilFunc] 8 := ⟨⟨Tryz.t291, _, by kernel_rfl, rfl, rfl, rfl, rfl⟩, Tryz.isAgg291, Tryz.sizeOf291, ⟨_, Tryz.zeroValue291, rfl⟩, ⟨_, Tryz.typeInfo291, rfl⟩⟩
instance hu291 : HasUnd Tryz.prog 291 := ⟨_, Tryz.runUnderlying291⟩
instance ty292 : Ty Tryz.prog 292 false 1 [.nilFunc] 8 := ⟨⟨Tryz.t292, _, by kernel_rfl, rfl, rfl, rfl, rfl⟩, Tryz.isAgg292, Tryz.sizeOf292, ⟨_, Tryz.zeroValue292, rfl⟩, ⟨_, Tryz.typeInfo292, rfl⟩⟩
instance hu292 : HasUnd Tryz.prog 292 := ⟨_, Tryz.runUnderlying292⟩
instance ty293 : Ty Tryz.prog 293 false 1 [.nilFunc] 8 := ⟨⟨Tryz.t293, _, by kernel_rfl, rfl, rfl, rfl, rfl⟩, Tryz.isAgg293, Tryz.sizeOf293, ⟨_, Tryz.zeroValue293, rfl⟩, ⟨_, Tryz.typeInfo293, rfl⟩⟩
instance hu293 : HasUnd Tryz.prog 293 := ⟨_, Tryz.runUnderlying293⟩
instance ty294 : Ty Tryz.prog 294 false 1 [.nilFunc] 8 := ⟨⟨Tryz.t294, _, by kernel_rfl, rfl, rfl, rfl, rfl⟩, Tryz.isAgg294, Tryz.sizeOf294, ⟨_, Tryz.zeroValue294, rfl⟩, ⟨_, Tryz.typeInfo294, rfl⟩⟩
instance hu294 : HasUnd Tryz.prog 294 := ⟨_, Tryz.runUnderlying294⟩
instance hu295 : HasUnd Tryz.prog 295 := ⟨_, Tryz.runUnderlying295⟩
instance ty296 : Ty Tryz.prog 296 false 1 [.nilFunc] 8 := ⟨⟨Tryz.t296, _, by kernel_rfl, rfl, rfl, rfl, rfl⟩, Tryz.isAgg296, Tryz.sizeOf296, ⟨_, Tryz.zeroValue296, rfl⟩, ⟨_, Tryz.typeInfo296, rfl⟩⟩
instance hu296 : HasUnd Tryz.prog 296 := ⟨_, Tryz.runUnderlying296⟩
instance ty297 : Ty Tryz.prog 297 false 1 [.nilFunc] 8 := ⟨⟨Tryz.t297, _, by kernel_rfl, rfl, rfl, rfl, rfl⟩, Tryz.isAgg297, Tryz.sizeOf297, ⟨_, Tryz.zeroValue297, rfl⟩, ⟨_, Tryz.typeInfo297, rfl⟩⟩
instance hu297 : HasUnd Tryz.prog 297 := ⟨_, Tryz.runUnderlying297⟩
instance ty298 : Ty Tryz.prog 298 false 1 [.int .u64 0] 8 := ⟨⟨Tryz.t298, _, by kernel_rfl, rfl, rfl, rfl, rfl⟩, Tryz.isAgg298, Tryz.sizeOf298, ⟨_, Tryz.zeroValue298, rfl⟩, ⟨_, Tryz.typeInfo298, rfl⟩⟩
instance hu298 : HasUnd Tryz.prog 298 := ⟨_, Tryz.runUnderlying298⟩
instance it298 : IntTy Tryz.prog 298 .u64 := ⟨Tryz.runUnderlying298, Tryz.underlying298⟩
instance ty299 : Ty Tryz.prog 299 false 1 [.nilFunc] 8 := ⟨⟨Tryz.t299, _, by kernel_rfl, rfl, rfl, rfl, rfl⟩, Tryz.isAgg299, Tryz.sizeOf299, ⟨_, Tryz.zeroValue299, rfl⟩, ⟨_, Tryz.typeInfo299, rfl⟩⟩
instance hu299 : HasUnd Tryz.prog 299 := ⟨_, Tryz.runUnderlying299⟩
instance ty300 : Ty Tryz.prog 300 false 1 [.nilFunc] 8 := ⟨⟨Tryz.t300, _, by kernel_rfl, rfl, rfl, rfl, rfl⟩, Tryz.isAgg300, Tryz.sizeOf300, ⟨_, Tryz.zeroValue300, rfl⟩, ⟨_, Tryz.typeInfo300, rfl⟩⟩
instance hu300 : HasUnd Tryz.prog 300 := ⟨_, Tryz.runUnderlying300⟩
instance ty301 : Ty Tryz.prog 301 false 1 [.pointer none] 8 := ⟨⟨Tryz.t301, _, by kernel_rfl, rfl, rfl, rfl, rfl⟩, Tryz.isAgg301, Tryz.sizeOf301, ⟨_, Tryz.zeroValue301, rfl⟩, ⟨_, Tryz.typeInfo301, rfl⟩⟩
instance hu301 : HasUnd Tryz.prog 301 := ⟨_, Tryz.runUnderlying301⟩
instance pt301 : PtrTy Tryz.prog 301 3 := ⟨Tryz.runUnderlying301, Tryz.underlying301⟩
instance ty302 : Ty Tryz.prog 302 false 1 [.nilFunc] 8 := ⟨⟨Tryz.t302, _, by kernel_rfl, rfl, rfl, rfl, rfl⟩, Tryz.isAgg302, Tryz.sizeOf302, ⟨_, Tryz.zeroValue302, rfl⟩, ⟨_, Tryz.typeInfo302, rfl⟩⟩
instance hu302 : HasUnd Tryz.prog 302 := ⟨_, Tryz.runUnderlying302⟩
instance ty303 : Ty Tryz.prog 303 false 1 [.pointer none] 8 := ⟨⟨Tryz.t303, _, by kernel_rfl, rfl, rfl, rfl, rfl⟩, Tryz.isAgg303, Tryz.sizeOf303, ⟨_, Tryz.zeroValue303, rfl⟩, ⟨_, Tryz.typeInfo303, rfl⟩⟩
instance hu303 : HasUnd Tryz.prog 303 := ⟨_, Tryz.runUnderlying303⟩
instance pt303 : PtrTy Tryz.prog 303 298 := ⟨Tryz.runUnderlying303, Tryz.underlying303⟩
instance hu304 : HasUnd Tryz.prog 304 := ⟨_, Tryz.runUnderlying304⟩
instance ty305 : Ty Tryz.prog 305 false 1 [.nilFunc] 8 := ⟨⟨Tryz.t305, _, by kernel_rfl, rfl, rfl, rfl, rfl⟩, Tryz.isAgg305, Tryz.sizeOf305, ⟨_, Tryz.zeroValue305, rfl⟩, ⟨_, Tryz.typeInfo305, rfl⟩⟩
instance hu305 : HasUnd Tryz.prog 305 := ⟨_, Tryz.runUnderlying305⟩
instance ty306 : Ty Tryz.prog 306 false 1 [.nilFunc] 8 := ⟨⟨Tryz.t306, _, by kernel_rfl, rfl, rfl, rfl, rfl⟩, Tryz.isAgg306, Tryz.sizeOf306, ⟨_, Tryz.zeroValue306, rfl⟩, ⟨_, Tryz.typeInfo306, rfl⟩⟩
instance hu306 : HasUnd Tryz.prog 306 := ⟨_, Tryz.runUnderlying306⟩
instance ty307 : Ty Tryz.prog 307 true 4 [.pointer none, .pointer none, .pointer none, .string ⟨#[]⟩] 40 := ⟨⟨Tryz.t307, _, by kernel_rfl, rfl, rfl, rfl, rfl⟩, Tryz.isAgg307, Tryz.sizeOf307, ⟨_, Tryz.zeroValue307, rfl⟩, ⟨_, Tryz.typeInfo307, rfl⟩⟩
instance hu307 : HasUnd Tryz.prog 307 := ⟨_, Tryz.runUnderlying307⟩
instance ss307 : StTy Tryz.prog 307 [(0, 1, false), (1, 1, false), (2, 1, false), (3, 1, false)] := ⟨_, Tryz.runUnderlying307, rfl, fun i off sz ag h => match i, h with
  | 0, h => by simp only [List.getElem?_cons_zero, List.getElem?_cons_succ, Option.some.injEq, Prod.mk.injEq] at h; obtain ⟨rfl, rfl, rfl⟩ := h; exact ⟨_, rfl, rfl, Tryz.sizeOf17, Tryz.isAgg17⟩
  | 1, h => by simp only [List.getElem?_cons_zero, List.getElem?_cons_succ, Option.some.injEq, Prod.mk.injEq] at h; obtain ⟨rfl, rfl, rfl⟩ := h; exact ⟨_, rfl, rfl, Tryz.sizeOf17, Tryz.isAgg17⟩
  | 2, h => by simp only [List.getElem?_cons_zero, List.getElem?_cons_succ, Option.some.injEq, Prod.mk.injEq] at h; obtain ⟨rfl, rfl, rfl⟩ := h; exact ⟨_, rfl, rfl, Tryz.sizeOf17, Tryz.isAgg17⟩
  | 3, h => by simp only [List.getElem?_cons_zero, List.getElem?_cons_succ, Option.some.injEq, Prod.mk.injEq] at h; obtain ⟨rfl, rfl, rfl⟩ := h; exact ⟨_, rfl, rfl, Tryz.sizeOf9, Tryz.isAgg9⟩
  | (i + 4), h => by simp at h⟩
instance ty308 : Ty Tryz.prog 308 true 4 [.pointer none, .pointer none, .pointer none, .string ⟨#[]⟩] 40 := ⟨⟨Tryz.t308, _, by kernel_rfl, rfl, rfl, rfl, rfl⟩, Tryz.isAgg308, Tryz.sizeOf308, ⟨_, Tryz.zeroValue308, rfl⟩, ⟨_, Tryz.typeInfo308, rfl⟩⟩
instance hu308 : HasUnd Tryz.prog 308 := ⟨_, Tryz.runUnderlying308⟩
instance ss308 : StTy Tryz.prog 308 [(0, 1, false), (1, 1, false), (2, 1, false), (3, 1, false)] := ⟨_, Tryz.runUnderlying308, rfl, fun i off sz ag h => match i, h with
  | 0, h => by simp only [List.getElem?_cons_zero, List.getElem?_cons_succ, Option.some.injEq, Prod.mk.injEq] at h; obtain ⟨rfl, rfl, rfl⟩ := h; exact ⟨_, rfl, rfl, Tryz.sizeOf17, Tryz.isAgg17⟩
  | 1, h => by simp only [List.getElem?_cons_zero, List.getElem?_cons_succ, Option.some.injEq, Prod.mk.injEq] at h; obtain ⟨rfl, rfl, rfl⟩ := h; exact ⟨_, rfl, rfl, Tryz.sizeOf17, Tryz.isAgg17⟩
  | 2, h => by simp only [List.getElem?_cons_zero, List.getElem?_cons_succ, Option.some.injEq, Prod.mk.injEq] at h; obtain ⟨rfl, rfl, rfl⟩ := h; exact ⟨_, rfl, rfl, Tryz.sizeOf17, Tryz.isAgg17⟩
  | 3, h => by simp only [List.getElem?_cons_zero, List.getElem?_cons_succ, Option.some.injEq, Prod.mk.injEq] at h; obtain ⟨rfl, rfl, rfl⟩ := h; exact ⟨_, rfl, rfl, Tryz.sizeOf9, Tryz.isAgg9⟩
  | (i + 4), h => by simp at h⟩
instance ty309 : Ty Tryz.prog 309 true 0 [] 0 := ⟨⟨Tryz.t309, _, by kernel_rfl, rfl, rfl, rfl, rfl⟩, Tryz.isAgg309, Tryz.sizeOf309, ⟨_, Tryz.zeroValue309, rfl⟩, ⟨_, Tryz.typeInfo309, rfl⟩⟩
instance hu309 : HasUnd Tryz.prog 309 := ⟨_, Tryz.runUnderlying309⟩
instance at309 : ArrTy Tryz.prog 309 0 16 := ⟨Tryz.runUnderlying309, Tryz.underlying309⟩
instance ty310 : Ty Tryz.prog 310 true 0 [] 0 := ⟨⟨Tryz.t310, _, by kernel_rfl, rfl, rfl, rfl, rfl⟩, Tryz.isAgg310, Tryz.sizeOf310, ⟨_, Tryz.zeroValue310, rfl⟩, ⟨_, Tryz.typeInfo310, rfl⟩⟩
instance hu310 : HasUnd Tryz.prog 310 := ⟨_, Tryz.runUnderlying310⟩
instance ss310 : StTy Tryz.prog 310 [(0, 0, true)] := ⟨_, Tryz.runUnderlying310, rfl, fun i off sz ag h => match i, h with
  | 0, h => by simp only [List.getElem?_cons_zero, List.getElem?_cons_succ, Option.some.injEq, Prod.mk.injEq] at h; obtain ⟨rfl, rfl, rfl⟩ := h; exact ⟨_, rfl, rfl, Tryz.sizeOf309, Tryz.isAgg309⟩
  | (i + 1), h => by simp at h⟩
instance ty311 : Ty Tryz.prog 311 true 0 [] 0 := ⟨⟨Tryz.t311, _, by kernel_rfl, rfl, rfl, rfl, rfl⟩, Tryz.isAgg311, Tryz.sizeOf311, ⟨_, Tryz.zeroValue311, rfl⟩, ⟨_, Tryz.typeInfo311, rfl⟩⟩
instance hu311 : HasUnd Tryz.prog 311 := ⟨_, Tryz.runUnderlying311⟩
instance ss311 : StTy Tryz.prog 311 [(0, 0, true)] := ⟨_, Tryz.runUnderlying311, rfl, fun i off sz ag h => match i, h with
  | 0, h => by simp only [List.getElem?_cons_zero, List.getElem?_cons_succ, Option.some.injEq, Prod.mk.injEq] at h; obtain ⟨rfl, rfl, rfl⟩ := h; exact ⟨_, rfl, rfl, Tryz.sizeOf309, Tryz.isAgg309⟩
  | (i + 1), h => by simp at h⟩
instance ty312 : Ty Tryz.prog 312 false 1 [.int .u8 0] 1 := ⟨⟨Tryz.t312, _, by kernel_rfl, rfl, rfl, rfl, rfl⟩, Tryz.isAgg312, Tryz.sizeOf312, ⟨_, Tryz.zeroValue312, rfl⟩, ⟨_, Tryz.typeInfo312, rfl⟩⟩
instance hu312 : HasUnd Tryz.prog 312 := ⟨_, Tryz.runUnderlying312⟩
instance it312 : IntTy Tryz.prog 312 .u8 := ⟨Tryz.runUnderlying312, Tryz.underlying312⟩
instance ty313 : Ty Tryz.prog 313 false 1 [.int .u8 0] 1 := ⟨⟨Tryz.t313, _, by kernel_rfl, rfl, rfl, rfl, rfl⟩, Tryz.isAgg313, Tryz.sizeOf313, ⟨_, Tryz.zeroValue313, rfl⟩, ⟨_, Tryz.typeInfo313, rfl⟩⟩
instance hu313 : HasUnd Tryz.prog 313 := ⟨_, Tryz.runUnderlying313⟩
instance it313 : IntTy Tryz.prog 313 .u8 := ⟨Tryz.runUnderlying313, Tryz.underlying313⟩
instance ty314 : Ty Tryz.prog 314 false 1 [.nilFunc] 8 := ⟨⟨Tryz.t314, _, by kernel_rfl, rfl, rfl, rfl, rfl⟩, Tryz.isAgg314, Tryz.sizeOf314, ⟨_, Tryz.zeroValue314, rfl⟩, ⟨_, Tryz.typeInfo314, rfl⟩⟩
instance hu314 : HasUnd Tryz.prog 314 := ⟨_, Tryz.runUnderlying314⟩
instance ty315 : Ty Tryz.prog 315 false 1 [.pointer none] 8 := ⟨⟨Tryz.t315, _, by kernel_rfl, rfl, rfl, rfl, rfl⟩, Tryz.isAgg315, Tryz.sizeOf315, ⟨_, Tryz.zeroValue315, rfl⟩, ⟨_, Tryz.typeInfo315, rfl⟩⟩
instance hu315 : HasUnd Tryz.prog 315 := ⟨_, Tryz.runUnderlying315⟩
instance pt315 : PtrTy Tryz.prog 315 5 := ⟨Tryz.runUnderlying315, Tryz.underlying315⟩
instance ty316 : Ty Tryz.prog 316 false 1 [.int .i32 0] 4 := ⟨⟨Tryz.t316, _, by kernel_rfl, rfl, rfl, rfl, rfl⟩, Tryz.isAgg316, Tryz.sizeOf316, ⟨_, Tryz.zeroValue316, rfl⟩, ⟨_, Tryz.typeInfo316, rfl⟩⟩
instance hu316 : HasUnd Tryz.prog 316 := ⟨_, Tryz.runUnderlying316⟩
instance it316 : IntTy Tryz.prog 316 .i32 := ⟨Tryz.runUnderlying316, Tryz.underlying316⟩
instance ty317 : Ty Tryz.prog 317 false 1 [.int .i32 0] 4 := ⟨⟨Tryz.t317, _, by kernel_rfl, rfl, rfl, rfl, rfl⟩, Tryz.isAgg317, Tryz.sizeOf317, ⟨_, Tryz.zeroValue317, rfl⟩, ⟨_, Tryz.typeInfo317, rfl⟩⟩
instance hu317 : HasUnd Tryz.prog 317 := ⟨_, Tryz.runUnderlying317⟩
instance it317 : IntTy Tryz.prog 317 .i32 := ⟨Tryz.runUnderlying317, Tryz.underlying317⟩
instance ty318 : Ty Tryz.prog 318 true 11 [.int .u64 0, .int .u64 0, .int .u32 0, .int .u8 0, .int .u8 0, .int .u8 0, .int .u8 0, .nilFunc, .pointer none, .int .i32 0, .int .i32 0] 48 := ⟨⟨Tryz.t318, _, by kernel_rfl, rfl, rfl, rfl, rfl⟩, Tryz.isAgg318, Tryz.sizeOf318, ⟨_, Tryz.zeroValue318, rfl⟩, ⟨_, Tryz.typeInfo318, rfl⟩⟩
instance hu318 : HasUnd Tryz.prog 318 := ⟨_, Tryz.runUnderlying318⟩
instance ss318 : StTy Tryz.prog 318 [(0, 1, false), (1, 1, false), (2, 1, false), (3, 1, false), (4, 1, false), (5, 1, false), (6, 1, false), (7, 1, false), (8, 1, false), (9, 1, false), (10, 1, false)] := ⟨_, Tryz.runUnderlying318, rfl, fun i off sz ag h => match i, h with
  | 0, h => by simp only [List.getElem?_cons_zero, List.getElem?_cons_succ, Option.some.injEq, Prod.mk.injEq] at h; obtain ⟨rfl, rfl, rfl⟩ := h; exact ⟨_, rfl, rfl, Tryz.sizeOf12, Tryz.isAgg12⟩
  | 1, h => by simp only [List.getElem?_cons_zero, List.getElem?_cons_succ, Option.some.injEq, Prod.mk.injEq] at h; obtain ⟨rfl, rfl, rfl⟩ := h; exact ⟨_, rfl, rfl, Tryz.sizeOf12, Tryz.isAgg12⟩
  | 2, h => by simp only [List.getElem?_cons_zero, List.getElem?_cons_succ, Option.some.injEq, Prod.mk.injEq] at h; obtain ⟨rfl, rfl, rfl⟩ := h; exact ⟨_, rfl, rfl, Tryz.sizeOf226, Tryz.isAgg226⟩
  | 3, h => by simp only [List.getElem?_cons_zero, List.getElem?_cons_succ, Option.some.injEq, Prod.mk.injEq] at h; obtain ⟨rfl, rfl, rfl⟩ := h; exact ⟨_, rfl, rfl, Tryz.sizeOf312, Tryz.isAgg312⟩
  | 4, h => by simp only [List.getElem?_cons_zero, List.getElem?_cons_succ, Option.some.injEq, Prod.mk.injEq] at h; obtain ⟨rfl, rfl, rfl⟩ := h; exact ⟨_, rfl, rfl, Tryz.sizeOf5, Tryz.isAgg5⟩
  | 5, h => by simp only [List.getElem?_cons_zero, List.getElem?_cons_succ, Option.some.injEq, Prod.mk.injEq] at h; obtain ⟨rfl, rfl, rfl⟩ := h; exact ⟨_, rfl, rfl, Tryz.sizeOf5, Tryz.isAgg5⟩
  | 6, h => by simp only [List.getElem?_cons_zero, List.getElem?_cons_succ, Option.some.injEq, Prod.mk.injEq] at h; obtain ⟨rfl, rfl, rfl⟩ := h; exact ⟨_, rfl, rfl, Tryz.sizeOf313, Tryz.isAgg313⟩
  | 7, h => by simp only [List.getElem?_cons_zero, List.getElem?_cons_succ, Option.some.injEq, Prod.mk.injEq] at h; obtain ⟨rfl, rfl, rfl⟩ := h; exact ⟨_, rfl, rfl, Tryz.sizeOf314, Tryz.isAgg314⟩
  | 8, h => by simp only [List.getElem?_cons_zero, List.getElem?_cons_succ, Option.some.injEq, Prod.mk.injEq] at h; obtain ⟨rfl, rfl, rfl⟩ := h; exact ⟨_, rfl, rfl, Tryz.sizeOf315, Tryz.isAgg315⟩
  | 9, h => by simp only [List.getElem?_cons_zero, List.getElem?_cons_succ, Option.some.injEq, Prod.mk.injEq] at h; obtain ⟨rfl, rfl, rfl⟩ := h; exact ⟨_, rfl, rfl, Tryz.sizeOf316, Tryz.isAgg316⟩
  | 10, h => by simp only [List.getElem?_cons_zero, List.getElem?_cons_succ, Option.some.injEq, Prod.mk.injEq] at h; obtain ⟨rfl, rfl, rfl⟩ := h; exact ⟨_, rfl, rfl, Tryz.sizeOf317, Tryz.isAgg317⟩
  | (i + 11), h => by simp at h⟩
instance ty319 : Ty Tryz.prog 319 true 11 [.int .u64 0, .int .u64 0, .int .u32 0, .int .u8 0, .int .u8 0, .int .u8 0, .int .u8 0, .nilFunc, .pointer none, .int .i32 0, .int .i32 0] 48 := ⟨⟨Tryz.t319, _, by kernel_rfl, rfl, rfl, rfl, rfl⟩, Tryz.isAgg319, Tryz.sizeOf319, ⟨_, Tryz.zeroValue319, rfl⟩, ⟨_, Tryz.typeInfo319, rfl⟩⟩
instance hu319 : HasUnd Tryz.prog 319 := ⟨_, Tryz.runUnderlying319⟩
instance ss319 : StTy Tryz.prog 319 [(0, 1, false), (1, 1, false), (2, 1, false), (3, 1, false), (4, 1, false), (5, 1, false), (6, 1, false), (7, 1, false), (8, 1, false), (9, 1, false), (10, 1, false)] := ⟨_, Tryz.runUnderlying319, rfl, fun i off sz ag h => match i, h with
  | 0, h => by simp only [List.getElem?_cons_zero, List.getElem?_cons_succ, Option.some.injEq, Prod.mk.injEq] at h; obtain ⟨rfl, rfl, rfl⟩ := h; exact ⟨_, rfl, rfl, Tryz.sizeOf12, Tryz.isAgg12⟩
  | 1, h => by simp only [List.getElem?_cons_zero, List.getElem?_cons_succ, Option.some.injEq, Prod.mk.injEq] at h; obtain ⟨rfl, rfl, rfl⟩ := h; exact ⟨_, rfl, rfl, Tryz.sizeOf12, Tryz.isAgg12⟩
  | 2, h => by simp only [List.getElem?_cons_zero, List.getElem?_cons_succ, Option.some.injEq, Prod.mk.injEq] at h; obtain ⟨rfl, rfl, rfl⟩ := h; exact ⟨_, rfl, rfl, Tryz.sizeOf226, Tryz.isAgg226⟩
  | 3, h => by simp only [List.getElem?_cons_zero, List.getElem?_cons_succ, Option.some.injEq, Prod.mk.injEq] at h; obtain ⟨rfl, rfl, rfl⟩ := h; exact ⟨_, rfl, rfl, Tryz.sizeOf312, Tryz.isAgg312⟩
  | 4, h => by simp only [List.getElem?_cons_zero, List.getElem?_cons_succ, Option.some.injEq, Prod.mk.injEq] at h; obtain ⟨rfl, rfl, rfl⟩ := h; exact ⟨_, rfl, rfl, Tryz.sizeOf5, Tryz.isAgg5⟩
  | 5, h => by simp only [List.getElem?_cons_zero, List.getElem?_cons_succ, Option.some.injEq, Prod.mk.injEq] at h; obtain ⟨rfl, rfl, rfl⟩ := h; exact ⟨_, rfl, rfl, Tryz.sizeOf5, Tryz.isAgg5⟩
  | 6, h => by simp only [List.getElem?_cons_zero, List.getElem?_cons_succ, Option.some.injEq, Prod.mk.injEq] at h; obtain ⟨rfl, rfl, rfl⟩ := h; exact ⟨_, rfl, rfl, Tryz.sizeOf313, Tryz.isAgg313⟩
  | 7, h => by simp only [List.getElem?_cons_zero, List.getElem?_cons_succ, Option.some.injEq, Prod.mk.injEq] at h; obtain ⟨rfl, rfl, rfl⟩ := h; exact ⟨_, rfl, rfl, Tryz.sizeOf314, Tryz.isAgg314⟩
  | 8, h => by simp only [List.getElem?_cons_zero, List.getElem?_cons_succ, Option.some.injEq, Prod.mk.injEq] at h; obtain ⟨rfl, rfl, rfl⟩ := h; exact ⟨_, rfl, rfl, Tryz.sizeOf315, Tryz.isAgg315⟩
  | 9, h => by simp only [List.getElem?_cons_zero, List.getElem?_cons_succ, Option.some.injEq, Prod.mk.injEq] at h; obtain ⟨rfl, rfl, rfl⟩ := h; exact ⟨_, rfl, rfl, Tryz.sizeOf316, Tryz.isAgg316⟩
  | 10, h => by simp only [List.getElem?_cons_zero, List.getElem?_cons_succ, Option.some.injEq, Prod.mk.injEq] at h; obtain ⟨rfl, rfl, rfl⟩ := h; exact ⟨_, rfl, rfl, Tryz.sizeOf317, Tryz.isAgg317⟩
  | (i + 11), h => by simp at h⟩
instance ty320 : Ty Tryz.prog 320 false 1 [.pointer none] 8 := ⟨⟨Tryz.t320, _, by kernel_rfl, rfl, rfl, rfl, rfl⟩, Tryz.isAgg320, Tryz.sizeOf320, ⟨_, Tryz.zeroValue320, rfl⟩, ⟨_, Tryz.typeInfo320, rfl⟩⟩
instance hu320 : HasUnd Tryz.prog 320 := ⟨_, Tryz.runUnderlying320⟩
instance en3 : Enters Tryz.prog 3 := ⟨Tryz.call3⟩
instance en4 : Enters Tryz.prog 4 := ⟨Tryz.call4⟩
instance en5 : Enters Tryz.prog 5 := ⟨Tryz.call5⟩
instance en6 : Enters Tryz.prog 6 := ⟨Tryz.call6⟩
instance en7 : Enters Tryz.prog 7 := ⟨Tryz.call7⟩
instance en8 : Enters Tryz.prog 8 := ⟨Tryz.call8⟩
instance en9 : Enters Tryz.prog 9 := ⟨Tryz.call9⟩
instance en10 : Enters Tryz.prog 10 := ⟨Tryz.call10⟩
instance en11 : Enters Tryz.prog 11 := ⟨Tryz.call11⟩
instance en12 : Enters Tryz.prog 12 := ⟨Tryz.call12⟩
instance en13 : Enters Tryz.prog 13 := ⟨Tryz.call13⟩
instance en14 : Enters Tryz.prog 14 := ⟨Tryz.call14⟩
instance en15 : Enters Tryz.prog 15 := ⟨Tryz.call15⟩
instance en16 : Enters Tryz.prog 16 := ⟨Tryz.call16⟩
instance en17 : Enters Tryz.prog 17 := ⟨Tryz.call17⟩
instance en18 : Enters Tryz.prog 18 := ⟨Tryz.call18⟩
instance en19 : Enters Tryz.prog 19 := ⟨Tryz.call19⟩
instance en20 : Enters Tryz.prog 20 := ⟨Tryz.call20⟩
instance en21 : Enters Tryz.prog 21 := ⟨Tryz.call21⟩
instance en22 : Enters Tryz.prog 22 := ⟨Tryz.call22⟩
instance en23 : Enters Tryz.prog 23 := ⟨Tryz.call23⟩
instance en24 : Enters Tryz.prog 24 := ⟨Tryz.call24⟩
instance en25 : Enters Tryz.prog 25 := ⟨Tryz.call25⟩
instance en26 : Enters Tryz.prog 26 := ⟨Tryz.call26⟩
instance en27 : Enters Tryz.prog 27 := ⟨Tryz.call27⟩
instance en28 : Enters Tryz.prog 28 := ⟨Tryz.call28⟩
instance en29 : Enters Tryz.prog 29 := ⟨Tryz.call29⟩
instance en30 : Enters Tryz.prog 30 := ⟨Tryz.call30⟩
instance en31 : Enters Tryz.prog 31 := ⟨Tryz.call31⟩
instance en32 : Enters Tryz.prog 32 := ⟨Tryz.call32⟩
instance en33 : Enters Tryz.prog 33 := ⟨Tryz.call33⟩
instance en34 : Enters Tryz.prog 34 := ⟨Tryz.call34⟩
instance en35 : Enters Tryz.prog 35 := ⟨Tryz.call35⟩
instance en36 : Enters Tryz.prog 36 := ⟨Tryz.call36⟩
instance en37 : Enters Tryz.prog 37 := ⟨Tryz.call37⟩
instance en38 : Enters Tryz.prog 38 := ⟨Tryz.call38⟩
instance en39 : Enters Tryz.prog 39 := ⟨Tryz.call39⟩
instance en40 : Enters Tryz.prog 40 := ⟨Tryz.call40⟩
instance en41 : Enters Tryz.prog 41 := ⟨Tryz.call41⟩
instance en42 : Enters Tryz.prog 42 := ⟨Tryz.call42⟩
instance en43 : Enters Tryz.prog 43 := ⟨Tryz.call43⟩
instance en44 : Enters Tryz.prog 44 := ⟨Tryz.call44⟩
instance en45 : Enters Tryz.prog 45 := ⟨Tryz.call45⟩
instance en46 : Enters Tryz.prog 46 := ⟨Tryz.call46⟩
instance en47 : Enters Tryz.prog 47 := ⟨Tryz.call47⟩
instance en48 : Enters Tryz.prog 48 := ⟨Tryz.call48⟩
instance en49 : Enters Tryz.prog 49 := ⟨Tryz.call49⟩
instance en50 : Enters Tryz.prog 50 := ⟨Tryz.call50⟩
instance en51 : Enters Tryz.prog 51 := ⟨Tryz.call51⟩
instance en52 : Enters Tryz.prog 52 := ⟨Tryz.call52⟩
instance en53 : Enters Tryz.prog 53 := ⟨Tryz.call53⟩
instance en54 : Enters Tryz.prog 54 := ⟨Tryz.call54⟩
instance en55 : Enters Tryz.prog 55 := ⟨Tryz.call55⟩
instance en56 : Enters Tryz.prog 56 := ⟨Tryz.call56⟩
instance en57 : Enters Tryz.prog 57 := ⟨Tryz.call57⟩
instance en58 : Enters Tryz.prog 58 := ⟨Tryz.call58⟩
instance en59 : Enters Tryz.prog 59 := ⟨Tryz.call59⟩
instance en60 : Enters Tryz.prog 60 := ⟨Tryz.call60⟩
instance en61 : Enters Tryz.prog 61 := ⟨Tryz.call61⟩
instance en62 : Enters Tryz.prog 62 := ⟨Tryz.call62⟩
instance en63 : Enters Tryz.prog 63 := ⟨Tryz.call63⟩
instance en64 : Enters Tryz.prog 64 := ⟨Tryz.call64⟩
instance en65 : Enters Tryz.prog 65 := ⟨Tryz.call65⟩
instance en66 : Enters Tryz.prog 66 := ⟨Tryz.call66⟩
instance en67 : Enters Tryz.prog 67 := ⟨Tryz.call67⟩
instance en68 : Enters Tryz.prog 68 := ⟨Tryz.call68⟩
instance en69 : Enters Tryz.prog 69 := ⟨Tryz.call69⟩
instance en70 : Enters Tryz.prog 70 := ⟨Tryz.call70⟩
instance en71 : Enters Tryz.prog 71 := ⟨Tryz.call71⟩
instance en72 : Enters Tryz.prog 72 := ⟨Tryz.call72⟩
instance en73 : Enters Tryz.prog 73 := ⟨Tryz.call73⟩
instance en74 : Enters Tryz.prog 74 := ⟨Tryz.call74⟩
instance en75 : Enters Tryz.prog 75 := ⟨Tryz.call75⟩
instance en76 : Enters Tryz.prog 76 := ⟨Tryz.call76⟩
instance en77 : Enters Tryz.prog 77 := ⟨Tryz.call77⟩
instance en78 : Enters Tryz.prog 78 := ⟨Tryz.call78⟩
instance en79 : Enters Tryz.prog 79 := ⟨Tryz.call79⟩
instance en80 : Enters Tryz.prog 80 := ⟨Tryz.call80⟩
instance en81 : Enters Tryz.prog 81 := ⟨Tryz.call81⟩
instance en82 : Enters Tryz.prog 82 := ⟨Tryz.call82⟩
instance en83 : Enters Tryz.prog 83 := ⟨Tryz.call83⟩
instance en84 : Enters Tryz.prog 84 := ⟨Tryz.call84⟩
instance en85 : Enters Tryz.prog 85 := ⟨Tryz.call85⟩
instance en86 : Enters Tryz.prog 86 := ⟨Tryz.call86⟩
instance en87 : Enters Tryz.prog 87 := ⟨Tryz.call87⟩
instance en88 : Enters Tryz.prog 88 := ⟨Tryz.call88⟩
instance en89 : Enters Tryz.prog 89 := ⟨Tryz.call89⟩
instance en90 : Enters Tryz.prog 90 := ⟨Tryz.call90⟩
instance en91 : Enters Tryz.prog 91 := ⟨Tryz.call91⟩
instance en92 : Enters Tryz.prog 92 := ⟨Tryz.call92⟩
instance en93 : Enters Tryz.prog 93 := ⟨Tryz.call93⟩
instance en94 : Enters Tryz.prog 94 := ⟨Tryz.call94⟩
instance en95 : Enters Tryz.prog 95 := ⟨Tryz.call95⟩
instance en96 : Enters Tryz.prog 96 := ⟨Tryz.call96⟩
instance en97 : Enters Tryz.prog 97 := ⟨Tryz.call97⟩
instance en98 : Enters Tryz.prog 98 := ⟨Tryz.call98⟩
instance en99 : Enters Tryz.prog 99 := ⟨Tryz.call99⟩
instance en100 : Enters Tryz.prog 100 := ⟨Tryz.call100⟩
instance en101 : Enters Tryz.prog 101 := ⟨Tryz.call101⟩
instance en102 : Enters Tryz.prog 102 := ⟨Tryz.call102⟩
instance en103 : Enters Tryz.prog 103 := ⟨Tryz.call103⟩
instance en104 : Enters Tryz.prog 104 := ⟨Tryz.call104⟩
instance en105 : Enters Tryz.prog 105 := ⟨Tryz.call105⟩
instance en106 : Enters Tryz.prog 106 := ⟨Tryz.call106⟩
instance en107 : Enters Tryz.prog 107 := ⟨Tryz.call107⟩
instance en108 : Enters Tryz.prog 108 := ⟨Tryz.call108⟩
instance en109 : Enters Tryz.prog 109 := ⟨Tryz.call109⟩
instance en110 : Enters Tryz.prog 110 := ⟨Tryz.call110⟩
instance en111 : Enters Tryz.prog 111 := ⟨Tryz.call111⟩
instance en112 : Enters Tryz.prog 112 := ⟨Tryz.call112⟩
instance en113 : Enters Tryz.prog 113 := ⟨Tryz.call113⟩
instance en114 : Enters Tryz.prog 114 := ⟨Tryz.call114⟩
instance en115 : Enters Tryz.prog 115 := ⟨Tryz.call115⟩
instance en116 : Enters Tryz.prog 116 := ⟨Tryz.call116⟩
instance en117 : Enters Tryz.prog 117 := ⟨Tryz.call117⟩
instance en118 : Enters Tryz.prog 118 := ⟨Tryz.call118⟩
instance en119 : Enters Tryz.prog 119 := ⟨Tryz.call119⟩
instance en120 : Enters Tryz.prog 120 := ⟨Tryz.call120⟩
instance en121 : Enters Tryz.prog 121 := ⟨Tryz.call121⟩
instance en122 : Enters Tryz.prog 122 := ⟨Tryz.call122⟩
instance en123 : Enters Tryz.prog 123 := ⟨Tryz.call123⟩
instance en124 : Enters Tryz.prog 124 := ⟨Tryz.call124⟩
instance en125 : Enters Tryz.prog 125 := ⟨Tryz.call125⟩
instance en126 : Enters Tryz.prog 126 := ⟨Tryz.call126⟩
instance en127 : Enters Tryz.prog 127 := ⟨Tryz.call127⟩
instance en128 : Enters Tryz.prog 128 := ⟨Tryz.call128⟩
instance en129 : Enters Tryz.prog 129 := ⟨Tryz.call129⟩
instance en130 : Enters Tryz.prog 130 := ⟨Tryz.call130⟩
instance en131 : Enters Tryz.prog 131 := ⟨Tryz.call131⟩
instance en132 : Enters Tryz.prog 132 := ⟨Tryz.call132⟩
instance en133 : Enters Tryz.prog 133 := ⟨Tryz.call133⟩
instance en134 : Enters Tryz.prog 134 := ⟨Tryz.call134⟩
instance en135 : Enters Tryz.prog 135 := ⟨Tryz.call135⟩
instance en136 : Enters Tryz.prog 136 := ⟨Tryz.call136⟩
instance en137 : Enters Tryz.prog 137 := ⟨Tryz.call137⟩
instance en138 : Enters Tryz.prog 138 := ⟨Tryz.call138⟩
instance en139 : Enters Tryz.prog 139 := ⟨Tryz.call139⟩
instance en140 : Enters Tryz.prog 140 := ⟨Tryz.call140⟩
instance en141 : Enters Tryz.prog 141 := ⟨Tryz.call141⟩
instance en142 : Enters Tryz.prog 142 := ⟨Tryz.call142⟩
instance en143 : Enters Tryz.prog 143 := ⟨Tryz.call143⟩
instance en144 : Enters Tryz.prog 144 := ⟨Tryz.call144⟩
instance en145 : Enters Tryz.prog 145 := ⟨Tryz.call145⟩
instance en146 : Enters Tryz.prog 146 := ⟨Tryz.call146⟩
instance en147 : Enters Tryz.prog 147 := ⟨Tryz.call147⟩
instance en148 : Enters Tryz.prog 148 := ⟨Tryz.call148⟩
instance en149 : Enters Tryz.prog 149 := ⟨Tryz.call149⟩
instance en150 : Enters Tryz.prog 150 := ⟨Tryz.call150⟩
instance en151 : Enters Tryz.prog 151 := ⟨Tryz.call151⟩
instance en152 : Enters Tryz.prog 152 := ⟨Tryz.call152⟩
instance en153 : Enters Tryz.prog 153 := ⟨Tryz.call153⟩
instance en154 : Enters Tryz.prog 154 := ⟨Tryz.call154⟩
instance en155 : Enters Tryz.prog 155 := ⟨Tryz.call155⟩
instance en156 : Enters Tryz.prog 156 := ⟨Tryz.call156⟩
instance en157 : Enters Tryz.prog 157 := ⟨Tryz.call157⟩
instance en158 : Enters Tryz.prog 158 := ⟨Tryz.call158⟩
instance en159 : Enters Tryz.prog 159 := ⟨Tryz.call159⟩
instance en160 : Enters Tryz.prog 160 := ⟨Tryz.call160⟩
instance en161 : Enters Tryz.prog 161 := ⟨Tryz.call161⟩
instance en162 : Enters Tryz.prog 162 := ⟨Tryz.call162⟩
instance en163 : Enters Tryz.prog 163 := ⟨Tryz.call163⟩
instance en164 : Enters Tryz.prog 164 := ⟨Tryz.call164⟩
instance en165 : Enters Tryz.prog 165 := ⟨Tryz.call165⟩
instance en166 : Enters Tryz.prog 166 := ⟨Tryz.call166⟩
instance en167 : Enters Tryz.prog 167 := ⟨Tryz.call167⟩
instance en168 : Enters Tryz.prog 168 := ⟨Tryz.call168⟩
instance en169 : Enters Tryz.prog 169 := ⟨Tryz.call169⟩
instance en170 : Enters Tryz.prog 170 := ⟨Tryz.call170⟩
instance en171 : Enters Tryz.prog 171 := ⟨Tryz.call171⟩
instance en172 : Enters Tryz.prog 172 := ⟨Tryz.call172⟩
instance en173 : Enters Tryz.prog 173 := ⟨Tryz.call173⟩
instance en174 : Enters Tryz.prog 174 := ⟨Tryz.call174⟩
instance en175 : Enters Tryz.prog 175 := ⟨Tryz.call175⟩
instance en176 : Enters Tryz.prog 176 := ⟨Tryz.call176⟩
instance en177 : Enters Tryz.prog 177 := ⟨Tryz.call177⟩
instance en178 : Enters Tryz.prog 178 := ⟨Tryz.call178⟩
instance en179 : Enters Tryz.prog 179 := ⟨Tryz.call179⟩
instance en180 : Enters Tryz.prog 180 := ⟨Tryz.call180⟩
instance en181 : Enters Tryz.prog 181 := ⟨Tryz.call181⟩
instance en182 : Enters Tryz.prog 182 := ⟨Tryz.call182⟩
instance en183 : Enters Tryz.prog 183 := ⟨Tryz.call183⟩
instance en184 : Enters Tryz.prog 184 := ⟨Tryz.call184⟩
instance en185 : Enters Tryz.prog 185 := ⟨Tryz.call185⟩
instance en186 : Enters Tryz.prog 186 := ⟨Tryz.call186⟩
instance en187 : Enters Tryz.prog 187 := ⟨Tryz.call187⟩
instance en188 : Enters Tryz.prog 188 := ⟨Tryz.call188⟩
instance en189 : Enters Tryz.prog 189 := ⟨Tryz.call189⟩
instance en190 : Enters Tryz.prog 190 := ⟨Tryz.call190⟩
instance en191 : Enters Tryz.prog 191 := ⟨Tryz.call191⟩
instance en192 : Enters Tryz.prog 192 := ⟨Tryz.call192⟩
instance en193 : Enters Tryz.prog 193 := ⟨Tryz.call193⟩
instance en194 : Enters Tryz.prog 194 := ⟨Tryz.call194⟩
instance en195 : Enters Tryz.prog 195 := ⟨Tryz.call195⟩
instance en196 : Enters Tryz.prog 196 := ⟨Tryz.call196⟩
instance en197 : Enters Tryz.prog 197 := ⟨Tryz.call197⟩
instance en198 : Enters Tryz.prog 198 := ⟨Tryz.call198⟩
instance en199 : Enters Tryz.prog 199 := ⟨Tryz.call199⟩
instance en200 : Enters Tryz.prog 200 := ⟨Tryz.call200⟩
instance en201 : Enters Tryz.prog 201 := ⟨Tryz.call201⟩
end Go.Proofs.YtjidejcehmamkaaGreatDoor
