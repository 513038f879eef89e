/- Facts on the types of the program, one by one.  By a program (wip/gen/gsa.py). No condition. -/
import Derived.Test.YtiampehfpgcogaaGreatDoorProg
import Derived.KernelRfl
import Derived.Test.YtiampehfpgcogaaGreatDoorPk02
set_option linter.unusedVariables false
set_option linter.unusedSimpArgs false
set_option linter.unusedSectionVars false
namespace Go.Proofs.YtiampehfpgcogaaGreatDoor
open Go Go.SX
instance hu0 : HasUnd Tryz.prog 0 := ⟨_,Tryz.runUnderlying0⟩
instance ty1 : Ty Tryz.prog 1 false 1 [.nilFunc] 8 := ⟨⟨Tryz.t1,_,by kernel_rfl,rfl,rfl,rfl,rfl⟩,Tryz.isAgg1,Tryz.sizeOf1,⟨_,Tryz.zeroValue1,rfl⟩,⟨_,Tryz.typeInfo1,rfl⟩⟩
instance hu1 : HasUnd Tryz.prog 1 := ⟨_,Tryz.runUnderlying1⟩
instance ty2 : Ty Tryz.prog 2 false 1 [.int .i64 0] 8 := ⟨⟨Tryz.t2,_,by kernel_rfl,rfl,rfl,rfl,rfl⟩,Tryz.isAgg2,Tryz.sizeOf2,⟨_,Tryz.zeroValue2,rfl⟩,⟨_,Tryz.typeInfo2,rfl⟩⟩
instance hu2 : HasUnd Tryz.prog 2 := ⟨_,Tryz.runUnderlying2⟩
instance it2 : IntTy Tryz.prog 2 .i64 := ⟨Tryz.runUnderlying2,Tryz.underlying2⟩
instance ty3 : Ty Tryz.prog 3 false 1 [.int .i64 0] 8 := ⟨⟨Tryz.t3,_,by kernel_rfl,rfl,rfl,rfl,rfl⟩,Tryz.isAgg3,Tryz.sizeOf3,⟨_,Tryz.zeroValue3,rfl⟩,⟨_,Tryz.typeInfo3,rfl⟩⟩
instance hu3 : HasUnd Tryz.prog 3 := ⟨_,Tryz.runUnderlying3⟩
instance it3 : IntTy Tryz.prog 3 .i64 := ⟨Tryz.runUnderlying3,Tryz.underlying3⟩
instance ty4 : Ty Tryz.prog 4 false 1 [.bool false] 1 := ⟨⟨Tryz.t4,_,by kernel_rfl,rfl,rfl,rfl,rfl⟩,Tryz.isAgg4,Tryz.sizeOf4,⟨_,Tryz.zeroValue4,rfl⟩,⟨_,Tryz.typeInfo4,rfl⟩⟩
instance hu4 : HasUnd Tryz.prog 4 := ⟨_,Tryz.runUnderlying4⟩
instance bt4 : BoolTy Tryz.prog 4 := ⟨Tryz.underlying4⟩
instance ty5 : Ty Tryz.prog 5 false 1 [.int .u8 0] 1 := ⟨⟨Tryz.t5,_,by kernel_rfl,rfl,rfl,rfl,rfl⟩,Tryz.isAgg5,Tryz.sizeOf5,⟨_,Tryz.zeroValue5,rfl⟩,⟨_,Tryz.typeInfo5,rfl⟩⟩
instance hu5 : HasUnd Tryz.prog 5 := ⟨_,Tryz.runUnderlying5⟩
instance it5 : IntTy Tryz.prog 5 .u8 := ⟨Tryz.runUnderlying5,Tryz.underlying5⟩
instance ty6 : Ty Tryz.prog 6 false 1 [.int .u8 0] 1 := ⟨⟨Tryz.t6,_,by kernel_rfl,rfl,rfl,rfl,rfl⟩,Tryz.isAgg6,Tryz.sizeOf6,⟨_,Tryz.zeroValue6,rfl⟩,⟨_,Tryz.typeInfo6,rfl⟩⟩
instance hu6 : HasUnd Tryz.prog 6 := ⟨_,Tryz.runUnderlying6⟩
instance it6 : IntTy Tryz.prog 6 .u8 := ⟨Tryz.runUnderlying6,Tryz.underlying6⟩
instance ty7 : Ty Tryz.prog 7 true 4 [.int .i64 0,.int .i64 0,.bool false,.int .u8 0] 24 := ⟨⟨Tryz.t7,_,by kernel_rfl,rfl,rfl,rfl,rfl⟩,Tryz.isAgg7,Tryz.sizeOf7,⟨_,Tryz.zeroValue7,rfl⟩,⟨_,Tryz.typeInfo7,rfl⟩⟩
instance hu7 : HasUnd Tryz.prog 7 := ⟨_,Tryz.runUnderlying7⟩
instance ss7 : StTy Tryz.prog 7 [(0,1,false),(1,1,false),(2,1,false),(3,1,false)] := ⟨_,Tryz.runUnderlying7,rfl,fun i off sz ag h => match i,h with
 | 0,h => by simp only [List.getElem?_cons_zero,List.getElem?_cons_succ,Option.some.injEq,Prod.mk.injEq] at h;obtain ⟨rfl,rfl,rfl⟩ := h;exact ⟨_,rfl,rfl,Tryz.sizeOf2,Tryz.isAgg2⟩
 | 1,h => by simp only [List.getElem?_cons_zero,List.getElem?_cons_succ,Option.some.injEq,Prod.mk.injEq] at h;obtain ⟨rfl,rfl,rfl⟩ := h;exact ⟨_,rfl,rfl,Tryz.sizeOf3,Tryz.isAgg3⟩
 | 2,h => by simp only [List.getElem?_cons_zero,List.getElem?_cons_succ,Option.some.injEq,Prod.mk.injEq] at h;obtain ⟨rfl,rfl,rfl⟩ := h;exact ⟨_,rfl,rfl,Tryz.sizeOf4,Tryz.isAgg4⟩
 | 3,h => by simp only [List.getElem?_cons_zero,List.getElem?_cons_succ,Option.some.injEq,Prod.mk.injEq] at h;obtain ⟨rfl,rfl,rfl⟩ := h;exact ⟨_,rfl,rfl,Tryz.sizeOf6,Tryz.isAgg6⟩
 | (i + 4),h => by simp at h⟩
instance ty8 : Ty Tryz.prog 8 true 4 [.int .i64 0,.int .i64 0,.bool false,.int .u8 0] 24 := ⟨⟨Tryz.t8,_,by kernel_rfl,rfl,rfl,rfl,rfl⟩,Tryz.isAgg8,Tryz.sizeOf8,⟨_,Tryz.zeroValue8,rfl⟩,⟨_,Tryz.typeInfo8,rfl⟩⟩
instance hu8 : HasUnd Tryz.prog 8 := ⟨_,Tryz.runUnderlying8⟩
instance ss8 : StTy Tryz.prog 8 [(0,1,false),(1,1,false),(2,1,false),(3,1,false)] := ⟨_,Tryz.runUnderlying8,rfl,fun i off sz ag h => match i,h with
 | 0,h => by simp only [List.getElem?_cons_zero,List.getElem?_cons_succ,Option.some.injEq,Prod.mk.injEq] at h;obtain ⟨rfl,rfl,rfl⟩ := h;exact ⟨_,rfl,rfl,Tryz.sizeOf2,Tryz.isAgg2⟩
 | 1,h => by simp only [List.getElem?_cons_zero,List.getElem?_cons_succ,Option.some.injEq,Prod.mk.injEq] at h;obtain ⟨rfl,rfl,rfl⟩ := h;exact ⟨_,rfl,rfl,Tryz.sizeOf3,Tryz.isAgg3⟩
 | 2,h => by simp only [List.getElem?_cons_zero,List.getElem?_cons_succ,Option.some.injEq,Prod.mk.injEq] at h;obtain ⟨rfl,rfl,rfl⟩ := h;exact ⟨_,rfl,rfl,Tryz.sizeOf4,Tryz.isAgg4⟩
 | 3,h => by simp only [List.getElem?_cons_zero,List.getElem?_cons_succ,Option.some.injEq,Prod.mk.injEq] at h;obtain ⟨rfl,rfl,rfl⟩ := h;exact ⟨_,rfl,rfl,Tryz.sizeOf6,Tryz.isAgg6⟩
 | (i + 4),h => by simp at h⟩
instance ty9 : Ty Tryz.prog 9 false 1 [.string ⟨#[]⟩] 16 := ⟨⟨Tryz.t9,_,by kernel_rfl,rfl,rfl,rfl,rfl⟩,Tryz.isAgg9,Tryz.sizeOf9,⟨_,Tryz.zeroValue9,rfl⟩,⟨_,Tryz.typeInfo9,rfl⟩⟩
instance hu9 : HasUnd Tryz.prog 9 := ⟨_,Tryz.runUnderlying9⟩
instance st9 : StrTy Tryz.prog 9 := ⟨Tryz.runUnderlying9,Tryz.underlying9⟩
instance ty10 : Ty Tryz.prog 10 false 1 [.string ⟨#[]⟩] 16 := ⟨⟨Tryz.t10,_,by kernel_rfl,rfl,rfl,rfl,rfl⟩,Tryz.isAgg10,Tryz.sizeOf10,⟨_,Tryz.zeroValue10,rfl⟩,⟨_,Tryz.typeInfo10,rfl⟩⟩
instance hu10 : HasUnd Tryz.prog 10 := ⟨_,Tryz.runUnderlying10⟩
instance st10 : StrTy Tryz.prog 10 := ⟨Tryz.runUnderlying10,Tryz.underlying10⟩
instance ty11 : Ty Tryz.prog 11 false 1 [.string ⟨#[]⟩] 16 := ⟨⟨Tryz.t11,_,by kernel_rfl,rfl,rfl,rfl,rfl⟩,Tryz.isAgg11,Tryz.sizeOf11,⟨_,Tryz.zeroValue11,rfl⟩,⟨_,Tryz.typeInfo11,rfl⟩⟩
instance hu11 : HasUnd Tryz.prog 11 := ⟨_,Tryz.runUnderlying11⟩
instance st11 : StrTy Tryz.prog 11 := ⟨Tryz.runUnderlying11,Tryz.underlying11⟩
instance ty12 : Ty Tryz.prog 12 false 1 [.int .u64 0] 8 := ⟨⟨Tryz.t12,_,by kernel_rfl,rfl,rfl,rfl,rfl⟩,Tryz.isAgg12,Tryz.sizeOf12,⟨_,Tryz.zeroValue12,rfl⟩,⟨_,Tryz.typeInfo12,rfl⟩⟩
instance hu12 : HasUnd Tryz.prog 12 := ⟨_,Tryz.runUnderlying12⟩
instance it12 : IntTy Tryz.prog 12 .u64 := ⟨Tryz.runUnderlying12,Tryz.underlying12⟩
instance ty13 : Ty Tryz.prog 13 true 2 [.string ⟨#[]⟩,.int .u64 0] 24 := ⟨⟨Tryz.t13,_,by kernel_rfl,rfl,rfl,rfl,rfl⟩,Tryz.isAgg13,Tryz.sizeOf13,⟨_,Tryz.zeroValue13,rfl⟩,⟨_,Tryz.typeInfo13,rfl⟩⟩
instance hu13 : HasUnd Tryz.prog 13 := ⟨_,Tryz.runUnderlying13⟩
instance ss13 : StTy Tryz.prog 13 [(0,1,false),(1,1,false)] := ⟨_,Tryz.runUnderlying13,rfl,fun i off sz ag h => match i,h with
 | 0,h => by simp only [List.getElem?_cons_zero,List.getElem?_cons_succ,Option.some.injEq,Prod.mk.injEq] at h;obtain ⟨rfl,rfl,rfl⟩ := h;exact ⟨_,rfl,rfl,Tryz.sizeOf9,Tryz.isAgg9⟩
 | 1,h => by simp only [List.getElem?_cons_zero,List.getElem?_cons_succ,Option.some.injEq,Prod.mk.injEq] at h;obtain ⟨rfl,rfl,rfl⟩ := h;exact ⟨_,rfl,rfl,Tryz.sizeOf12,Tryz.isAgg12⟩
 | (i + 2),h => by simp at h⟩
instance ty14 : Ty Tryz.prog 14 true 2 [.string ⟨#[]⟩,.int .u64 0] 24 := ⟨⟨Tryz.t14,_,by kernel_rfl,rfl,rfl,rfl,rfl⟩,Tryz.isAgg14,Tryz.sizeOf14,⟨_,Tryz.zeroValue14,rfl⟩,⟨_,Tryz.typeInfo14,rfl⟩⟩
instance hu14 : HasUnd Tryz.prog 14 := ⟨_,Tryz.runUnderlying14⟩
instance ss14 : StTy Tryz.prog 14 [(0,1,false),(1,1,false)] := ⟨_,Tryz.runUnderlying14,rfl,fun i off sz ag h => match i,h with
 | 0,h => by simp only [List.getElem?_cons_zero,List.getElem?_cons_succ,Option.some.injEq,Prod.mk.injEq] at h;obtain ⟨rfl,rfl,rfl⟩ := h;exact ⟨_,rfl,rfl,Tryz.sizeOf9,Tryz.isAgg9⟩
 | 1,h => by simp only [List.getElem?_cons_zero,List.getElem?_cons_succ,Option.some.injEq,Prod.mk.injEq] at h;obtain ⟨rfl,rfl,rfl⟩ := h;exact ⟨_,rfl,rfl,Tryz.sizeOf12,Tryz.isAgg12⟩
 | (i + 2),h => by simp at h⟩
instance ty15 : Ty Tryz.prog 15 false 1 [.pointer none] 8 := ⟨⟨Tryz.t15,_,by kernel_rfl,rfl,rfl,rfl,rfl⟩,Tryz.isAgg15,Tryz.sizeOf15,⟨_,Tryz.zeroValue15,rfl⟩,⟨_,Tryz.typeInfo15,rfl⟩⟩
instance hu15 : HasUnd Tryz.prog 15 := ⟨_,Tryz.runUnderlying15⟩
instance pt15 : PtrTy Tryz.prog 15 246 := ⟨Tryz.runUnderlying15,Tryz.underlying15⟩
instance ty16 : Ty Tryz.prog 16 false 1 [.pointer none] 8 := ⟨⟨Tryz.t16,_,by kernel_rfl,rfl,rfl,rfl,rfl⟩,Tryz.isAgg16,Tryz.sizeOf16,⟨_,Tryz.zeroValue16,rfl⟩,⟨_,Tryz.typeInfo16,rfl⟩⟩
instance hu16 : HasUnd Tryz.prog 16 := ⟨_,Tryz.runUnderlying16⟩
instance pt16 : PtrTy Tryz.prog 16 249 := ⟨Tryz.runUnderlying16,Tryz.underlying16⟩
instance ty17 : Ty Tryz.prog 17 false 1 [.pointer none] 8 := ⟨⟨Tryz.t17,_,by kernel_rfl,rfl,rfl,rfl,rfl⟩,Tryz.isAgg17,Tryz.sizeOf17,⟨_,Tryz.zeroValue17,rfl⟩,⟨_,Tryz.typeInfo17,rfl⟩⟩
instance hu17 : HasUnd Tryz.prog 17 := ⟨_,Tryz.runUnderlying17⟩
instance pt17 : PtrTy Tryz.prog 17 257 := ⟨Tryz.runUnderlying17,Tryz.underlying17⟩
instance ty18 : Ty Tryz.prog 18 true 1 [.pointer none] 8 := ⟨⟨Tryz.t18,_,by kernel_rfl,rfl,rfl,rfl,rfl⟩,Tryz.isAgg18,Tryz.sizeOf18,⟨_,Tryz.zeroValue18,rfl⟩,⟨_,Tryz.typeInfo18,rfl⟩⟩
instance hu18 : HasUnd Tryz.prog 18 := ⟨_,Tryz.runUnderlying18⟩
instance ss18 : StTy Tryz.prog 18 [(0,1,false)] := ⟨_,Tryz.runUnderlying18,rfl,fun i off sz ag h => match i,h with
 | 0,h => by simp only [List.getElem?_cons_zero,List.getElem?_cons_succ,Option.some.injEq,Prod.mk.injEq] at h;obtain ⟨rfl,rfl,rfl⟩ := h;exact ⟨_,rfl,rfl,Tryz.sizeOf17,Tryz.isAgg17⟩
 | (i + 1),h => by simp at h⟩
instance ty19 : Ty Tryz.prog 19 true 1 [.pointer none] 8 := ⟨⟨Tryz.t19,_,by kernel_rfl,rfl,rfl,rfl,rfl⟩,Tryz.isAgg19,Tryz.sizeOf19,⟨_,Tryz.zeroValue19,rfl⟩,⟨_,Tryz.typeInfo19,rfl⟩⟩
instance hu19 : HasUnd Tryz.prog 19 := ⟨_,Tryz.runUnderlying19⟩
instance ss19 : StTy Tryz.prog 19 [(0,1,false)] := ⟨_,Tryz.runUnderlying19,rfl,fun i off sz ag h => match i,h with
 | 0,h => by simp only [List.getElem?_cons_zero,List.getElem?_cons_succ,Option.some.injEq,Prod.mk.injEq] at h;obtain ⟨rfl,rfl,rfl⟩ := h;exact ⟨_,rfl,rfl,Tryz.sizeOf17,Tryz.isAgg17⟩
 | (i + 1),h => by simp at h⟩
instance ty20 : Ty Tryz.prog 20 false 1 [.nilIface] 16 := ⟨⟨Tryz.t20,_,by kernel_rfl,rfl,rfl,rfl,rfl⟩,Tryz.isAgg20,Tryz.sizeOf20,⟨_,Tryz.zeroValue20,rfl⟩,⟨_,Tryz.typeInfo20,rfl⟩⟩
instance hu20 : HasUnd Tryz.prog 20 := ⟨_,Tryz.runUnderlying20⟩
instance ty21 : Ty Tryz.prog 21 false 1 [.int .i32 0] 4 := ⟨⟨Tryz.t21,_,by kernel_rfl,rfl,rfl,rfl,rfl⟩,Tryz.isAgg21,Tryz.sizeOf21,⟨_,Tryz.zeroValue21,rfl⟩,⟨_,Tryz.typeInfo21,rfl⟩⟩
instance hu21 : HasUnd Tryz.prog 21 := ⟨_,Tryz.runUnderlying21⟩
instance it21 : IntTy Tryz.prog 21 .i32 := ⟨Tryz.runUnderlying21,Tryz.underlying21⟩
instance ty22 : Ty Tryz.prog 22 false 1 [.slice none 0 0] 24 := ⟨⟨Tryz.t22,_,by kernel_rfl,rfl,rfl,rfl,rfl⟩,Tryz.isAgg22,Tryz.sizeOf22,⟨_,Tryz.zeroValue22,rfl⟩,⟨_,Tryz.typeInfo22,rfl⟩⟩
instance hu22 : HasUnd Tryz.prog 22 := ⟨_,Tryz.runUnderlying22⟩
instance sl22 : SlTy Tryz.prog 22 41 := ⟨Tryz.runUnderlying22,Tryz.underlying22⟩
instance ty23 : Ty Tryz.prog 23 false 1 [.nilFunc] 8 := ⟨⟨Tryz.t23,_,by kernel_rfl,rfl,rfl,rfl,rfl⟩,Tryz.isAgg23,Tryz.sizeOf23,⟨_,Tryz.zeroValue23,rfl⟩,⟨_,Tryz.typeInfo23,rfl⟩⟩
instance hu23 : HasUnd Tryz.prog 23 := ⟨_,Tryz.runUnderlying23⟩
instance ty24 : Ty Tryz.prog 24 false 1 [.pointer none] 8 := ⟨⟨Tryz.t24,_,by kernel_rfl,rfl,rfl,rfl,rfl⟩,Tryz.isAgg24,Tryz.sizeOf24,⟨_,Tryz.zeroValue24,rfl⟩,⟨_,Tryz.typeInfo24,rfl⟩⟩
instance hu24 : HasUnd Tryz.prog 24 := ⟨_,Tryz.runUnderlying24⟩
instance pt24 : PtrTy Tryz.prog 24 81 := ⟨Tryz.runUnderlying24,Tryz.underlying24⟩
instance ty25 : Ty Tryz.prog 25 false 1 [.int .i64 0] 8 := ⟨⟨Tryz.t25,_,by kernel_rfl,rfl,rfl,rfl,rfl⟩,Tryz.isAgg25,Tryz.sizeOf25,⟨_,Tryz.zeroValue25,rfl⟩,⟨_,Tryz.typeInfo25,rfl⟩⟩
instance hu25 : HasUnd Tryz.prog 25 := ⟨_,Tryz.runUnderlying25⟩
instance it25 : IntTy Tryz.prog 25 .i64 := ⟨Tryz.runUnderlying25,Tryz.underlying25⟩
instance hu26 : HasUnd Tryz.prog 26 := ⟨_,Tryz.runUnderlying26⟩
instance ty27 : Ty Tryz.prog 27 false 1 [.nilFunc] 8 := ⟨⟨Tryz.t27,_,by kernel_rfl,rfl,rfl,rfl,rfl⟩,Tryz.isAgg27,Tryz.sizeOf27,⟨_,Tryz.zeroValue27,rfl⟩,⟨_,Tryz.typeInfo27,rfl⟩⟩
instance hu27 : HasUnd Tryz.prog 27 := ⟨_,Tryz.runUnderlying27⟩
instance ty28 : Ty Tryz.prog 28 false 1 [.pointer none] 8 := ⟨⟨Tryz.t28,_,by kernel_rfl,rfl,rfl,rfl,rfl⟩,Tryz.isAgg28,Tryz.sizeOf28,⟨_,Tryz.zeroValue28,rfl⟩,⟨_,Tryz.typeInfo28,rfl⟩⟩
instance hu28 : HasUnd Tryz.prog 28 := ⟨_,Tryz.runUnderlying28⟩
instance pt28 : PtrTy Tryz.prog 28 33 := ⟨Tryz.runUnderlying28,Tryz.underlying28⟩
instance ty29 : Ty Tryz.prog 29 false 1 [.int .u64 0] 8 := ⟨⟨Tryz.t29,_,by kernel_rfl,rfl,rfl,rfl,rfl⟩,Tryz.isAgg29,Tryz.sizeOf29,⟨_,Tryz.zeroValue29,rfl⟩,⟨_,Tryz.typeInfo29,rfl⟩⟩
instance hu29 : HasUnd Tryz.prog 29 := ⟨_,Tryz.runUnderlying29⟩
instance it29 : IntTy Tryz.prog 29 .u64 := ⟨Tryz.runUnderlying29,Tryz.underlying29⟩
instance ty30 : Ty Tryz.prog 30 false 1 [.slice none 0 0] 24 := ⟨⟨Tryz.t30,_,by kernel_rfl,rfl,rfl,rfl,rfl⟩,Tryz.isAgg30,Tryz.sizeOf30,⟨_,Tryz.zeroValue30,rfl⟩,⟨_,Tryz.typeInfo30,rfl⟩⟩
instance hu30 : HasUnd Tryz.prog 30 := ⟨_,Tryz.runUnderlying30⟩
instance sl30 : SlTy Tryz.prog 30 121 := ⟨Tryz.runUnderlying30,Tryz.underlying30⟩
instance ty31 : Ty Tryz.prog 31 false 1 [.slice none 0 0] 24 := ⟨⟨Tryz.t31,_,by kernel_rfl,rfl,rfl,rfl,rfl⟩,Tryz.isAgg31,Tryz.sizeOf31,⟨_,Tryz.zeroValue31,rfl⟩,⟨_,Tryz.typeInfo31,rfl⟩⟩
instance hu31 : HasUnd Tryz.prog 31 := ⟨_,Tryz.runUnderlying31⟩
instance sl31 : SlTy Tryz.prog 31 142 := ⟨Tryz.runUnderlying31,Tryz.underlying31⟩
instance ty32 : Ty Tryz.prog 32 true 7 [.int .i64 0,.int .i64 0,.int .u64 0,.int .u64 0,.int .u64 0,.slice none 0 0,.slice none 0 0] 88 := ⟨⟨Tryz.t32,_,by kernel_rfl,rfl,rfl,rfl,rfl⟩,Tryz.isAgg32,Tryz.sizeOf32,⟨_,Tryz.zeroValue32,rfl⟩,⟨_,Tryz.typeInfo32,rfl⟩⟩
instance hu32 : HasUnd Tryz.prog 32 := ⟨_,Tryz.runUnderlying32⟩
instance ss32 : StTy Tryz.prog 32 [(0,1,false),(1,1,false),(2,1,false),(3,1,false),(4,1,false),(5,1,false),(6,1,false)] := ⟨_,Tryz.runUnderlying32,rfl,fun i off sz ag h => match i,h with
 | 0,h => by simp only [List.getElem?_cons_zero,List.getElem?_cons_succ,Option.some.injEq,Prod.mk.injEq] at h;obtain ⟨rfl,rfl,rfl⟩ := h;exact ⟨_,rfl,rfl,Tryz.sizeOf3,Tryz.isAgg3⟩
 | 1,h => by simp only [List.getElem?_cons_zero,List.getElem?_cons_succ,Option.some.injEq,Prod.mk.injEq] at h;obtain ⟨rfl,rfl,rfl⟩ := h;exact ⟨_,rfl,rfl,Tryz.sizeOf3,Tryz.isAgg3⟩
 | 2,h => by simp only [List.getElem?_cons_zero,List.getElem?_cons_succ,Option.some.injEq,Prod.mk.injEq] at h;obtain ⟨rfl,rfl,rfl⟩ := h;exact ⟨_,rfl,rfl,Tryz.sizeOf29,Tryz.isAgg29⟩
 | 3,h => by simp only [List.getElem?_cons_zero,List.getElem?_cons_succ,Option.some.injEq,Prod.mk.injEq] at h;obtain ⟨rfl,rfl,rfl⟩ := h;exact ⟨_,rfl,rfl,Tryz.sizeOf29,Tryz.isAgg29⟩
 | 4,h => by simp only [List.getElem?_cons_zero,List.getElem?_cons_succ,Option.some.injEq,Prod.mk.injEq] at h;obtain ⟨rfl,rfl,rfl⟩ := h;exact ⟨_,rfl,rfl,Tryz.sizeOf29,Tryz.isAgg29⟩
 | 5,h => by simp only [List.getElem?_cons_zero,List.getElem?_cons_succ,Option.some.injEq,Prod.mk.injEq] at h;obtain ⟨rfl,rfl,rfl⟩ := h;exact ⟨_,rfl,rfl,Tryz.sizeOf30,Tryz.isAgg30⟩
 | 6,h => by simp only [List.getElem?_cons_zero,List.getElem?_cons_succ,Option.some.injEq,Prod.mk.injEq] at h;obtain ⟨rfl,rfl,rfl⟩ := h;exact ⟨_,rfl,rfl,Tryz.sizeOf31,Tryz.isAgg31⟩
 | (i + 7),h => by simp at h⟩
instance ty33 : Ty Tryz.prog 33 true 7 [.int .i64 0,.int .i64 0,.int .u64 0,.int .u64 0,.int .u64 0,.slice none 0 0,.slice none 0 0] 88 := ⟨⟨Tryz.t33,_,by kernel_rfl,rfl,rfl,rfl,rfl⟩,Tryz.isAgg33,Tryz.sizeOf33,⟨_,Tryz.zeroValue33,rfl⟩,⟨_,Tryz.typeInfo33,rfl⟩⟩
instance hu33 : HasUnd Tryz.prog 33 := ⟨_,Tryz.runUnderlying33⟩
instance ss33 : StTy Tryz.prog 33 [(0,1,false),(1,1,false),(2,1,false),(3,1,false),(4,1,false),(5,1,false),(6,1,false)] := ⟨_,Tryz.runUnderlying33,rfl,fun i off sz ag h => match i,h with
 | 0,h => by simp only [List.getElem?_cons_zero,List.getElem?_cons_succ,Option.some.injEq,Prod.mk.injEq] at h;obtain ⟨rfl,rfl,rfl⟩ := h;exact ⟨_,rfl,rfl,Tryz.sizeOf3,Tryz.isAgg3⟩
 | 1,h => by simp only [List.getElem?_cons_zero,List.getElem?_cons_succ,Option.some.injEq,Prod.mk.injEq] at h;obtain ⟨rfl,rfl,rfl⟩ := h;exact ⟨_,rfl,rfl,Tryz.sizeOf3,Tryz.isAgg3⟩
 | 2,h => by simp only [List.getElem?_cons_zero,List.getElem?_cons_succ,Option.some.injEq,Prod.mk.injEq] at h;obtain ⟨rfl,rfl,rfl⟩ := h;exact ⟨_,rfl,rfl,Tryz.sizeOf29,Tryz.isAgg29⟩
 | 3,h => by simp only [List.getElem?_cons_zero,List.getElem?_cons_succ,Option.some.injEq,Prod.mk.injEq] at h;obtain ⟨rfl,rfl,rfl⟩ := h;exact ⟨_,rfl,rfl,Tryz.sizeOf29,Tryz.isAgg29⟩
 | 4,h => by simp only [List.getElem?_cons_zero,List.getElem?_cons_succ,Option.some.injEq,Prod.mk.injEq] at h;obtain ⟨rfl,rfl,rfl⟩ := h;exact ⟨_,rfl,rfl,Tryz.sizeOf29,Tryz.isAgg29⟩
 | 5,h => by simp only [List.getElem?_cons_zero,List.getElem?_cons_succ,Option.some.injEq,Prod.mk.injEq] at h;obtain ⟨rfl,rfl,rfl⟩ := h;exact ⟨_,rfl,rfl,Tryz.sizeOf30,Tryz.isAgg30⟩
 | 6,h => by simp only [List.getElem?_cons_zero,List.getElem?_cons_succ,Option.some.injEq,Prod.mk.injEq] at h;obtain ⟨rfl,rfl,rfl⟩ := h;exact ⟨_,rfl,rfl,Tryz.sizeOf31,Tryz.isAgg31⟩
 | (i + 7),h => by simp at h⟩
instance ty34 : Ty Tryz.prog 34 false 1 [.slice none 0 0] 24 := ⟨⟨Tryz.t34,_,by kernel_rfl,rfl,rfl,rfl,rfl⟩,Tryz.isAgg34,Tryz.sizeOf34,⟨_,Tryz.zeroValue34,rfl⟩,⟨_,Tryz.typeInfo34,rfl⟩⟩
instance hu34 : HasUnd Tryz.prog 34 := ⟨_,Tryz.runUnderlying34⟩
instance sl34 : SlTy Tryz.prog 34 3 := ⟨Tryz.runUnderlying34,Tryz.underlying34⟩
instance ty35 : Ty Tryz.prog 35 false 1 [.slice none 0 0] 24 := ⟨⟨Tryz.t35,_,by kernel_rfl,rfl,rfl,rfl,rfl⟩,Tryz.isAgg35,Tryz.sizeOf35,⟨_,Tryz.zeroValue35,rfl⟩,⟨_,Tryz.typeInfo35,rfl⟩⟩
instance hu35 : HasUnd Tryz.prog 35 := ⟨_,Tryz.runUnderlying35⟩
instance sl35 : SlTy Tryz.prog 35 77 := ⟨Tryz.runUnderlying35,Tryz.underlying35⟩
instance ty36 : Ty Tryz.prog 36 false 1 [.slice none 0 0] 24 := ⟨⟨Tryz.t36,_,by kernel_rfl,rfl,rfl,rfl,rfl⟩,Tryz.isAgg36,Tryz.sizeOf36,⟨_,Tryz.zeroValue36,rfl⟩,⟨_,Tryz.typeInfo36,rfl⟩⟩
instance hu36 : HasUnd Tryz.prog 36 := ⟨_,Tryz.runUnderlying36⟩
instance sl36 : SlTy Tryz.prog 36 21 := ⟨Tryz.runUnderlying36,Tryz.underlying36⟩
instance ty37 : Ty Tryz.prog 37 false 1 [.slice none 0 0] 24 := ⟨⟨Tryz.t37,_,by kernel_rfl,rfl,rfl,rfl,rfl⟩,Tryz.isAgg37,Tryz.sizeOf37,⟨_,Tryz.zeroValue37,rfl⟩,⟨_,Tryz.typeInfo37,rfl⟩⟩
instance hu37 : HasUnd Tryz.prog 37 := ⟨_,Tryz.runUnderlying37⟩
instance sl37 : SlTy Tryz.prog 37 111 := ⟨Tryz.runUnderlying37,Tryz.underlying37⟩
instance ty38 : Ty Tryz.prog 38 true 16 [.int .u8 0,.int .u64 0,.int .u64 0,.int .u64 0,.int .u64 0,.int .u64 0,.int .u64 0,.int .u64 0,.int .i64 0,.int .i64 0,.int .i64 0,.int .i64 0,.slice none 0 0,.slice none 0 0,.slice none 0 0,.slice none 0 0] 192 := ⟨⟨Tryz.t38,_,by kernel_rfl,rfl,rfl,rfl,rfl⟩,Tryz.isAgg38,Tryz.sizeOf38,⟨_,Tryz.zeroValue38,rfl⟩,⟨_,Tryz.typeInfo38,rfl⟩⟩
instance hu38 : HasUnd Tryz.prog 38 := ⟨_,Tryz.runUnderlying38⟩
instance ss38 : StTy Tryz.prog 38 [(0,1,false),(1,1,false),(2,1,false),(3,1,false),(4,1,false),(5,1,false),(6,1,false),(7,1,false),(8,1,false),(9,1,false),(10,1,false),(11,1,false),(12,1,false),(13,1,false),(14,1,false),(15,1,false)] := ⟨_,Tryz.runUnderlying38,rfl,fun i off sz ag h => match i,h with
 | 0,h => by simp only [List.getElem?_cons_zero,List.getElem?_cons_succ,Option.some.injEq,Prod.mk.injEq] at h;obtain ⟨rfl,rfl,rfl⟩ := h;exact ⟨_,rfl,rfl,Tryz.sizeOf5,Tryz.isAgg5⟩
 | 1,h => by simp only [List.getElem?_cons_zero,List.getElem?_cons_succ,Option.some.injEq,Prod.mk.injEq] at h;obtain ⟨rfl,rfl,rfl⟩ := h;exact ⟨_,rfl,rfl,Tryz.sizeOf29,Tryz.isAgg29⟩
 | 2,h => by simp only [List.getElem?_cons_zero,List.getElem?_cons_succ,Option.some.injEq,Prod.mk.injEq] at h;obtain ⟨rfl,rfl,rfl⟩ := h;exact ⟨_,rfl,rfl,Tryz.sizeOf29,Tryz.isAgg29⟩
 | 3,h => by simp only [List.getElem?_cons_zero,List.getElem?_cons_succ,Option.some.injEq,Prod.mk.injEq] at h;obtain ⟨rfl,rfl,rfl⟩ := h;exact ⟨_,rfl,rfl,Tryz.sizeOf29,Tryz.isAgg29⟩
 | 4,h => by simp only [List.getElem?_cons_zero,List.getElem?_cons_succ,Option.some.injEq,Prod.mk.injEq] at h;obtain ⟨rfl,rfl,rfl⟩ := h;exact ⟨_,rfl,rfl,Tryz.sizeOf29,Tryz.isAgg29⟩
 | 5,h => by simp only [List.getElem?_cons_zero,List.getElem?_cons_succ,Option.some.injEq,Prod.mk.injEq] at h;obtain ⟨rfl,rfl,rfl⟩ := h;exact ⟨_,rfl,rfl,Tryz.sizeOf29,Tryz.isAgg29⟩
 | 6,h => by simp only [List.getElem?_cons_zero,List.getElem?_cons_succ,Option.some.injEq,Prod.mk.injEq] at h;obtain ⟨rfl,rfl,rfl⟩ := h;exact ⟨_,rfl,rfl,Tryz.sizeOf29,Tryz.isAgg29⟩
 | 7,h => by simp only [List.getElem?_cons_zero,List.getElem?_cons_succ,Option.some.injEq,Prod.mk.injEq] at h;obtain ⟨rfl,rfl,rfl⟩ := h;exact ⟨_,rfl,rfl,Tryz.sizeOf29,Tryz.isAgg29⟩
 | 8,h => by simp only [List.getElem?_cons_zero,List.getElem?_cons_succ,Option.some.injEq,Prod.mk.injEq] at h;obtain ⟨rfl,rfl,rfl⟩ := h;exact ⟨_,rfl,rfl,Tryz.sizeOf3,Tryz.isAgg3⟩
 | 9,h => by simp only [List.getElem?_cons_zero,List.getElem?_cons_succ,Option.some.injEq,Prod.mk.injEq] at h;obtain ⟨rfl,rfl,rfl⟩ := h;exact ⟨_,rfl,rfl,Tryz.sizeOf3,Tryz.isAgg3⟩
 | 10,h => by simp only [List.getElem?_cons_zero,List.getElem?_cons_succ,Option.some.injEq,Prod.mk.injEq] at h;obtain ⟨rfl,rfl,rfl⟩ := h;exact ⟨_,rfl,rfl,Tryz.sizeOf25,Tryz.isAgg25⟩
 | 11,h => by simp only [List.getElem?_cons_zero,List.getElem?_cons_succ,Option.some.injEq,Prod.mk.injEq] at h;obtain ⟨rfl,rfl,rfl⟩ := h;exact ⟨_,rfl,rfl,Tryz.sizeOf3,Tryz.isAgg3⟩
 | 12,h => by simp only [List.getElem?_cons_zero,List.getElem?_cons_succ,Option.some.injEq,Prod.mk.injEq] at h;obtain ⟨rfl,rfl,rfl⟩ := h;exact ⟨_,rfl,rfl,Tryz.sizeOf34,Tryz.isAgg34⟩
 | 13,h => by simp only [List.getElem?_cons_zero,List.getElem?_cons_succ,Option.some.injEq,Prod.mk.injEq] at h;obtain ⟨rfl,rfl,rfl⟩ := h;exact ⟨_,rfl,rfl,Tryz.sizeOf35,Tryz.isAgg35⟩
 | 14,h => by simp only [List.getElem?_cons_zero,List.getElem?_cons_succ,Option.some.injEq,Prod.mk.injEq] at h;obtain ⟨rfl,rfl,rfl⟩ := h;exact ⟨_,rfl,rfl,Tryz.sizeOf36,Tryz.isAgg36⟩
 | 15,h => by simp only [List.getElem?_cons_zero,List.getElem?_cons_succ,Option.some.injEq,Prod.mk.injEq] at h;obtain ⟨rfl,rfl,rfl⟩ := h;exact ⟨_,rfl,rfl,Tryz.sizeOf37,Tryz.isAgg37⟩
 | (i + 16),h => by simp at h⟩
instance ty39 : Ty Tryz.prog 39 true 16 [.int .u8 0,.int .u64 0,.int .u64 0,.int .u64 0,.int .u64 0,.int .u64 0,.int .u64 0,.int .u64 0,.int .i64 0,.int .i64 0,.int .i64 0,.int .i64 0,.slice none 0 0,.slice none 0 0,.slice none 0 0,.slice none 0 0] 192 := ⟨⟨Tryz.t39,_,by kernel_rfl,rfl,rfl,rfl,rfl⟩,Tryz.isAgg39,Tryz.sizeOf39,⟨_,Tryz.zeroValue39,rfl⟩,⟨_,Tryz.typeInfo39,rfl⟩⟩
instance hu39 : HasUnd Tryz.prog 39 := ⟨_,Tryz.runUnderlying39⟩
instance ss39 : StTy Tryz.prog 39 [(0,1,false),(1,1,false),(2,1,false),(3,1,false),(4,1,false),(5,1,false),(6,1,false),(7,1,false),(8,1,false),(9,1,false),(10,1,false),(11,1,false),(12,1,false),(13,1,false),(14,1,false),(15,1,false)] := ⟨_,Tryz.runUnderlying39,rfl,fun i off sz ag h => match i,h with
 | 0,h => by simp only [List.getElem?_cons_zero,List.getElem?_cons_succ,Option.some.injEq,Prod.mk.injEq] at h;obtain ⟨rfl,rfl,rfl⟩ := h;exact ⟨_,rfl,rfl,Tryz.sizeOf5,Tryz.isAgg5⟩
 | 1,h => by simp only [List.getElem?_cons_zero,List.getElem?_cons_succ,Option.some.injEq,Prod.mk.injEq] at h;obtain ⟨rfl,rfl,rfl⟩ := h;exact ⟨_,rfl,rfl,Tryz.sizeOf29,Tryz.isAgg29⟩
 | 2,h => by simp only [List.getElem?_cons_zero,List.getElem?_cons_succ,Option.some.injEq,Prod.mk.injEq] at h;obtain ⟨rfl,rfl,rfl⟩ := h;exact ⟨_,rfl,rfl,Tryz.sizeOf29,Tryz.isAgg29⟩
 | 3,h => by simp only [List.getElem?_cons_zero,List.getElem?_cons_succ,Option.some.injEq,Prod.mk.injEq] at h;obtain ⟨rfl,rfl,rfl⟩ := h;exact ⟨_,rfl,rfl,Tryz.sizeOf29,Tryz.isAgg29⟩
 | 4,h => by simp only [List.getElem?_cons_zero,List.getElem?_cons_succ,Option.some.injEq,Prod.mk.injEq] at h;obtain ⟨rfl,rfl,rfl⟩ := h;exact ⟨_,rfl,rfl,Tryz.sizeOf29,Tryz.isAgg29⟩
 | 5,h => by simp only [List.getElem?_cons_zero,List.getElem?_cons_succ,Option.some.injEq,Prod.mk.injEq] at h;obtain ⟨rfl,rfl,rfl⟩ := h;exact ⟨_,rfl,rfl,Tryz.sizeOf29,Tryz.isAgg29⟩
 | 6,h => by simp only [List.getElem?_cons_zero,List.getElem?_cons_succ,Option.some.injEq,Prod.mk.injEq] at h;obtain ⟨rfl,rfl,rfl⟩ := h;exact ⟨_,rfl,rfl,Tryz.sizeOf29,Tryz.isAgg29⟩
 | 7,h => by simp only [List.getElem?_cons_zero,List.getElem?_cons_succ,Option.some.injEq,Prod.mk.injEq] at h;obtain ⟨rfl,rfl,rfl⟩ := h;exact ⟨_,rfl,rfl,Tryz.sizeOf29,Tryz.isAgg29⟩
 | 8,h => by simp only [List.getElem?_cons_zero,List.getElem?_cons_succ,Option.some.injEq,Prod.mk.injEq] at h;obtain ⟨rfl,rfl,rfl⟩ := h;exact ⟨_,rfl,rfl,Tryz.sizeOf3,Tryz.isAgg3⟩
 | 9,h => by simp only [List.getElem?_cons_zero,List.getElem?_cons_succ,Option.some.injEq,Prod.mk.injEq] at h;obtain ⟨rfl,rfl,rfl⟩ := h;exact ⟨_,rfl,rfl,Tryz.sizeOf3,Tryz.isAgg3⟩
 | 10,h => by simp only [List.getElem?_cons_zero,List.getElem?_cons_succ,Option.some.injEq,Prod.mk.injEq] at h;obtain ⟨rfl,rfl,rfl⟩ := h;exact ⟨_,rfl,rfl,Tryz.sizeOf25,Tryz.isAgg25⟩
 | 11,h => by simp only [List.getElem?_cons_zero,List.getElem?_cons_succ,Option.some.injEq,Prod.mk.injEq] at h;obtain ⟨rfl,rfl,rfl⟩ := h;exact ⟨_,rfl,rfl,Tryz.sizeOf3,Tryz.isAgg3⟩
 | 12,h => by simp only [List.getElem?_cons_zero,List.getElem?_cons_succ,Option.some.injEq,Prod.mk.injEq] at h;obtain ⟨rfl,rfl,rfl⟩ := h;exact ⟨_,rfl,rfl,Tryz.sizeOf34,Tryz.isAgg34⟩
 | 13,h => by simp only [List.getElem?_cons_zero,List.getElem?_cons_succ,Option.some.injEq,Prod.mk.injEq] at h;obtain ⟨rfl,rfl,rfl⟩ := h;exact ⟨_,rfl,rfl,Tryz.sizeOf35,Tryz.isAgg35⟩
 | 14,h => by simp only [List.getElem?_cons_zero,List.getElem?_cons_succ,Option.some.injEq,Prod.mk.injEq] at h;obtain ⟨rfl,rfl,rfl⟩ := h;exact ⟨_,rfl,rfl,Tryz.sizeOf36,Tryz.isAgg36⟩
 | 15,h => by simp only [List.getElem?_cons_zero,List.getElem?_cons_succ,Option.some.injEq,Prod.mk.injEq] at h;obtain ⟨rfl,rfl,rfl⟩ := h;exact ⟨_,rfl,rfl,Tryz.sizeOf37,Tryz.isAgg37⟩
 | (i + 16),h => by simp at h⟩
instance ty40 : Ty Tryz.prog 40 true 19 [.int .u8 0,.int .i64 0,.int .u8 0,.int .u64 0,.int .u64 0,.int .u64 0,.int .u64 0,.int .u64 0,.int .u64 0,.int .u64 0,.int .i64 0,.int .i64 0,.int .i64 0,.int .i64 0,.slice none 0 0,.slice none 0 0,.slice none 0 0,.slice none 0 0,.bool false] 216 := ⟨⟨Tryz.t40,_,by kernel_rfl,rfl,rfl,rfl,rfl⟩,Tryz.isAgg40,Tryz.sizeOf40,⟨_,Tryz.zeroValue40,rfl⟩,⟨_,Tryz.typeInfo40,rfl⟩⟩
instance hu40 : HasUnd Tryz.prog 40 := ⟨_,Tryz.runUnderlying40⟩
instance ss40 : StTy Tryz.prog 40 [(0,1,false),(1,1,false),(2,16,true),(18,1,false)] := ⟨_,Tryz.runUnderlying40,rfl,fun i off sz ag h => match i,h with
 | 0,h => by simp only [List.getElem?_cons_zero,List.getElem?_cons_succ,Option.some.injEq,Prod.mk.injEq] at h;obtain ⟨rfl,rfl,rfl⟩ := h;exact ⟨_,rfl,rfl,Tryz.sizeOf5,Tryz.isAgg5⟩
 | 1,h => by simp only [List.getElem?_cons_zero,List.getElem?_cons_succ,Option.some.injEq,Prod.mk.injEq] at h;obtain ⟨rfl,rfl,rfl⟩ := h;exact ⟨_,rfl,rfl,Tryz.sizeOf3,Tryz.isAgg3⟩
 | 2,h => by simp only [List.getElem?_cons_zero,List.getElem?_cons_succ,Option.some.injEq,Prod.mk.injEq] at h;obtain ⟨rfl,rfl,rfl⟩ := h;exact ⟨_,rfl,rfl,Tryz.sizeOf39,Tryz.isAgg39⟩
 | 3,h => by simp only [List.getElem?_cons_zero,List.getElem?_cons_succ,Option.some.injEq,Prod.mk.injEq] at h;obtain ⟨rfl,rfl,rfl⟩ := h;exact ⟨_,rfl,rfl,Tryz.sizeOf4,Tryz.isAgg4⟩
 | (i + 4),h => by simp at h⟩
instance ty41 : Ty Tryz.prog 41 true 19 [.int .u8 0,.int .i64 0,.int .u8 0,.int .u64 0,.int .u64 0,.int .u64 0,.int .u64 0,.int .u64 0,.int .u64 0,.int .u64 0,.int .i64 0,.int .i64 0,.int .i64 0,.int .i64 0,.slice none 0 0,.slice none 0 0,.slice none 0 0,.slice none 0 0,.bool false] 216 := ⟨⟨Tryz.t41,_,by kernel_rfl,rfl,rfl,rfl,rfl⟩,Tryz.isAgg41,Tryz.sizeOf41,⟨_,Tryz.zeroValue41,rfl⟩,⟨_,Tryz.typeInfo41,rfl⟩⟩
instance hu41 : HasUnd Tryz.prog 41 := ⟨_,Tryz.runUnderlying41⟩
instance ss41 : StTy Tryz.prog 41 [(0,1,false),(1,1,false),(2,16,true),(18,1,false)] := ⟨_,Tryz.runUnderlying41,rfl,fun i off sz ag h => match i,h with
 | 0,h => by simp only [List.getElem?_cons_zero,List.getElem?_cons_succ,Option.some.injEq,Prod.mk.injEq] at h;obtain ⟨rfl,rfl,rfl⟩ := h;exact ⟨_,rfl,rfl,Tryz.sizeOf5,Tryz.isAgg5⟩
 | 1,h => by simp only [List.getElem?_cons_zero,List.getElem?_cons_succ,Option.some.injEq,Prod.mk.injEq] at h;obtain ⟨rfl,rfl,rfl⟩ := h;exact ⟨_,rfl,rfl,Tryz.sizeOf3,Tryz.isAgg3⟩
 | 2,h => by simp only [List.getElem?_cons_zero,List.getElem?_cons_succ,Option.some.injEq,Prod.mk.injEq] at h;obtain ⟨rfl,rfl,rfl⟩ := h;exact ⟨_,rfl,rfl,Tryz.sizeOf39,Tryz.isAgg39⟩
 | 3,h => by simp only [List.getElem?_cons_zero,List.getElem?_cons_succ,Option.some.injEq,Prod.mk.injEq] at h;obtain ⟨rfl,rfl,rfl⟩ := h;exact ⟨_,rfl,rfl,Tryz.sizeOf4,Tryz.isAgg4⟩
 | (i + 4),h => by simp at h⟩
instance ty42 : Ty Tryz.prog 42 false 1 [.nilFunc] 8 := ⟨⟨Tryz.t42,_,by kernel_rfl,rfl,rfl,rfl,rfl⟩,Tryz.isAgg42,Tryz.sizeOf42,⟨_,Tryz.zeroValue42,rfl⟩,⟨_,Tryz.typeInfo42,rfl⟩⟩
instance hu42 : HasUnd Tryz.prog 42 := ⟨_,Tryz.runUnderlying42⟩
instance ty43 : Ty Tryz.prog 43 false 1 [.slice none 0 0] 24 := ⟨⟨Tryz.t43,_,by kernel_rfl,rfl,rfl,rfl,rfl⟩,Tryz.isAgg43,Tryz.sizeOf43,⟨_,Tryz.zeroValue43,rfl⟩,⟨_,Tryz.typeInfo43,rfl⟩⟩
instance hu43 : HasUnd Tryz.prog 43 := ⟨_,Tryz.runUnderlying43⟩
instance sl43 : SlTy Tryz.prog 43 46 := ⟨Tryz.runUnderlying43,Tryz.underlying43⟩
instance ty44 : Ty Tryz.prog 44 false 1 [.nilFunc] 8 := ⟨⟨Tryz.t44,_,by kernel_rfl,rfl,rfl,rfl,rfl⟩,Tryz.isAgg44,Tryz.sizeOf44,⟨_,Tryz.zeroValue44,rfl⟩,⟨_,Tryz.typeInfo44,rfl⟩⟩
instance hu44 : HasUnd Tryz.prog 44 := ⟨_,Tryz.runUnderlying44⟩
instance ty45 : Ty Tryz.prog 45 true 8 [.int .u64 0,.int .u64 0,.int .u64 0,.int .u64 0,.int .i64 0,.slice none 0 0,.slice none 0 0,.slice none 0 0] 112 := ⟨⟨Tryz.t45,_,by kernel_rfl,rfl,rfl,rfl,rfl⟩,Tryz.isAgg45,Tryz.sizeOf45,⟨_,Tryz.zeroValue45,rfl⟩,⟨_,Tryz.typeInfo45,rfl⟩⟩
instance hu45 : HasUnd Tryz.prog 45 := ⟨_,Tryz.runUnderlying45⟩
instance ss45 : StTy Tryz.prog 45 [(0,1,false),(1,1,false),(2,1,false),(3,1,false),(4,1,false),(5,1,false),(6,1,false),(7,1,false)] := ⟨_,Tryz.runUnderlying45,rfl,fun i off sz ag h => match i,h with
 | 0,h => by simp only [List.getElem?_cons_zero,List.getElem?_cons_succ,Option.some.injEq,Prod.mk.injEq] at h;obtain ⟨rfl,rfl,rfl⟩ := h;exact ⟨_,rfl,rfl,Tryz.sizeOf29,Tryz.isAgg29⟩
 | 1,h => by simp only [List.getElem?_cons_zero,List.getElem?_cons_succ,Option.some.injEq,Prod.mk.injEq] at h;obtain ⟨rfl,rfl,rfl⟩ := h;exact ⟨_,rfl,rfl,Tryz.sizeOf29,Tryz.isAgg29⟩
 | 2,h => by simp only [List.getElem?_cons_zero,List.getElem?_cons_succ,Option.some.injEq,Prod.mk.injEq] at h;obtain ⟨rfl,rfl,rfl⟩ := h;exact ⟨_,rfl,rfl,Tryz.sizeOf29,Tryz.isAgg29⟩
 | 3,h => by simp only [List.getElem?_cons_zero,List.getElem?_cons_succ,Option.some.injEq,Prod.mk.injEq] at h;obtain ⟨rfl,rfl,rfl⟩ := h;exact ⟨_,rfl,rfl,Tryz.sizeOf29,Tryz.isAgg29⟩
 | 4,h => by simp only [List.getElem?_cons_zero,List.getElem?_cons_succ,Option.some.injEq,Prod.mk.injEq] at h;obtain ⟨rfl,rfl,rfl⟩ := h;exact ⟨_,rfl,rfl,Tryz.sizeOf3,Tryz.isAgg3⟩
 | 5,h => by simp only [List.getElem?_cons_zero,List.getElem?_cons_succ,Option.some.injEq,Prod.mk.injEq] at h;obtain ⟨rfl,rfl,rfl⟩ := h;exact ⟨_,rfl,rfl,Tryz.sizeOf34,Tryz.isAgg34⟩
 | 6,h => by simp only [List.getElem?_cons_zero,List.getElem?_cons_succ,Option.some.injEq,Prod.mk.injEq] at h;obtain ⟨rfl,rfl,rfl⟩ := h;exact ⟨_,rfl,rfl,Tryz.sizeOf34,Tryz.isAgg34⟩
 | 7,h => by simp only [List.getElem?_cons_zero,List.getElem?_cons_succ,Option.some.injEq,Prod.mk.injEq] at h;obtain ⟨rfl,rfl,rfl⟩ := h;exact ⟨_,rfl,rfl,Tryz.sizeOf34,Tryz.isAgg34⟩
 | (i + 8),h => by simp at h⟩
instance ty46 : Ty Tryz.prog 46 true 8 [.int .u64 0,.int .u64 0,.int .u64 0,.int .u64 0,.int .i64 0,.slice none 0 0,.slice none 0 0,.slice none 0 0] 112 := ⟨⟨Tryz.t46,_,by kernel_rfl,rfl,rfl,rfl,rfl⟩,Tryz.isAgg46,Tryz.sizeOf46,⟨_,Tryz.zeroValue46,rfl⟩,⟨_,Tryz.typeInfo46,rfl⟩⟩
instance hu46 : HasUnd Tryz.prog 46 := ⟨_,Tryz.runUnderlying46⟩
instance ss46 : StTy Tryz.prog 46 [(0,1,false),(1,1,false),(2,1,false),(3,1,false),(4,1,false),(5,1,false),(6,1,false),(7,1,false)] := ⟨_,Tryz.runUnderlying46,rfl,fun i off sz ag h => match i,h with
 | 0,h => by simp only [List.getElem?_cons_zero,List.getElem?_cons_succ,Option.some.injEq,Prod.mk.injEq] at h;obtain ⟨rfl,rfl,rfl⟩ := h;exact ⟨_,rfl,rfl,Tryz.sizeOf29,Tryz.isAgg29⟩
 | 1,h => by simp only [List.getElem?_cons_zero,List.getElem?_cons_succ,Option.some.injEq,Prod.mk.injEq] at h;obtain ⟨rfl,rfl,rfl⟩ := h;exact ⟨_,rfl,rfl,Tryz.sizeOf29,Tryz.isAgg29⟩
 | 2,h => by simp only [List.getElem?_cons_zero,List.getElem?_cons_succ,Option.some.injEq,Prod.mk.injEq] at h;obtain ⟨rfl,rfl,rfl⟩ := h;exact ⟨_,rfl,rfl,Tryz.sizeOf29,Tryz.isAgg29⟩
 | 3,h => by simp only [List.getElem?_cons_zero,List.getElem?_cons_succ,Option.some.injEq,Prod.mk.injEq] at h;obtain ⟨rfl,rfl,rfl⟩ := h;exact ⟨_,rfl,rfl,Tryz.sizeOf29,Tryz.isAgg29⟩
 | 4,h => by simp only [List.getElem?_cons_zero,List.getElem?_cons_succ,Option.some.injEq,Prod.mk.injEq] at h;obtain ⟨rfl,rfl,rfl⟩ := h;exact ⟨_,rfl,rfl,Tryz.sizeOf3,Tryz.isAgg3⟩
 | 5,h => by simp only [List.getElem?_cons_zero,List.getElem?_cons_succ,Option.some.injEq,Prod.mk.injEq] at h;obtain ⟨rfl,rfl,rfl⟩ := h;exact ⟨_,rfl,rfl,Tryz.sizeOf34,Tryz.isAgg34⟩
 | 6,h => by simp only [List.getElem?_cons_zero,List.getElem?_cons_succ,Option.some.injEq,Prod.mk.injEq] at h;obtain ⟨rfl,rfl,rfl⟩ := h;exact ⟨_,rfl,rfl,Tryz.sizeOf34,Tryz.isAgg34⟩
 | 7,h => by simp only [List.getElem?_cons_zero,List.getElem?_cons_succ,Option.some.injEq,Prod.mk.injEq] at h;obtain ⟨rfl,rfl,rfl⟩ := h;exact ⟨_,rfl,rfl,Tryz.sizeOf34,Tryz.isAgg34⟩
 | (i + 8),h => by simp at h⟩
instance ty47 : Ty Tryz.prog 47 false 1 [.slice none 0 0] 24 := ⟨⟨Tryz.t47,_,by kernel_rfl,rfl,rfl,rfl,rfl⟩,Tryz.isAgg47,Tryz.sizeOf47,⟨_,Tryz.zeroValue47,rfl⟩,⟨_,Tryz.typeInfo47,rfl⟩⟩
instance hu47 : HasUnd Tryz.prog 47 := ⟨_,Tryz.runUnderlying47⟩
instance sl47 : SlTy Tryz.prog 47 52 := ⟨Tryz.runUnderlying47,Tryz.underlying47⟩
instance ty48 : Ty Tryz.prog 48 false 1 [.slice none 0 0] 24 := ⟨⟨Tryz.t48,_,by kernel_rfl,rfl,rfl,rfl,rfl⟩,Tryz.isAgg48,Tryz.sizeOf48,⟨_,Tryz.zeroValue48,rfl⟩,⟨_,Tryz.typeInfo48,rfl⟩⟩
instance hu48 : HasUnd Tryz.prog 48 := ⟨_,Tryz.runUnderlying48⟩
instance sl48 : SlTy Tryz.prog 48 54 := ⟨Tryz.runUnderlying48,Tryz.underlying48⟩
instance ty49 : Ty Tryz.prog 49 true 5 [.slice none 0 0,.slice none 0 0,.slice none 0 0,.slice none 0 0,.slice none 0 0] 120 := ⟨⟨Tryz.t49,_,by kernel_rfl,rfl,rfl,rfl,rfl⟩,Tryz.isAgg49,Tryz.sizeOf49,⟨_,Tryz.zeroValue49,rfl⟩,⟨_,Tryz.typeInfo49,rfl⟩⟩
instance hu49 : HasUnd Tryz.prog 49 := ⟨_,Tryz.runUnderlying49⟩
instance ss49 : StTy Tryz.prog 49 [(0,1,false),(1,1,false),(2,1,false),(3,1,false),(4,1,false)] := ⟨_,Tryz.runUnderlying49,rfl,fun i off sz ag h => match i,h with
 | 0,h => by simp only [List.getElem?_cons_zero,List.getElem?_cons_succ,Option.some.injEq,Prod.mk.injEq] at h;obtain ⟨rfl,rfl,rfl⟩ := h;exact ⟨_,rfl,rfl,Tryz.sizeOf47,Tryz.isAgg47⟩
 | 1,h => by simp only [List.getElem?_cons_zero,List.getElem?_cons_succ,Option.some.injEq,Prod.mk.injEq] at h;obtain ⟨rfl,rfl,rfl⟩ := h;exact ⟨_,rfl,rfl,Tryz.sizeOf47,Tryz.isAgg47⟩
 | 2,h => by simp only [List.getElem?_cons_zero,List.getElem?_cons_succ,Option.some.injEq,Prod.mk.injEq] at h;obtain ⟨rfl,rfl,rfl⟩ := h;exact ⟨_,rfl,rfl,Tryz.sizeOf48,Tryz.isAgg48⟩
 | 3,h => by simp only [List.getElem?_cons_zero,List.getElem?_cons_succ,Option.some.injEq,Prod.mk.injEq] at h;obtain ⟨rfl,rfl,rfl⟩ := h;exact ⟨_,rfl,rfl,Tryz.sizeOf47,Tryz.isAgg47⟩
 | 4,h => by simp only [List.getElem?_cons_zero,List.getElem?_cons_succ,Option.some.injEq,Prod.mk.injEq] at h;obtain ⟨rfl,rfl,rfl⟩ := h;exact ⟨_,rfl,rfl,Tryz.sizeOf48,Tryz.isAgg48⟩
 | (i + 5),h => by simp at h⟩
instance ty50 : Ty Tryz.prog 50 true 5 [.slice none 0 0,.slice none 0 0,.slice none 0 0,.slice none 0 0,.slice none 0 0] 120 := ⟨⟨Tryz.t50,_,by kernel_rfl,rfl,rfl,rfl,rfl⟩,Tryz.isAgg50,Tryz.sizeOf50,⟨_,Tryz.zeroValue50,rfl⟩,⟨_,Tryz.typeInfo50,rfl⟩⟩
instance hu50 : HasUnd Tryz.prog 50 := ⟨_,Tryz.runUnderlying50⟩
instance ss50 : StTy Tryz.prog 50 [(0,1,false),(1,1,false),(2,1,false),(3,1,false),(4,1,false)] := ⟨_,Tryz.runUnderlying50,rfl,fun i off sz ag h => match i,h with
 | 0,h => by simp only [List.getElem?_cons_zero,List.getElem?_cons_succ,Option.some.injEq,Prod.mk.injEq] at h;obtain ⟨rfl,rfl,rfl⟩ := h;exact ⟨_,rfl,rfl,Tryz.sizeOf47,Tryz.isAgg47⟩
 | 1,h => by simp only [List.getElem?_cons_zero,List.getElem?_cons_succ,Option.some.injEq,Prod.mk.injEq] at h;obtain ⟨rfl,rfl,rfl⟩ := h;exact ⟨_,rfl,rfl,Tryz.sizeOf47,Tryz.isAgg47⟩
 | 2,h => by simp only [List.getElem?_cons_zero,List.getElem?_cons_succ,Option.some.injEq,Prod.mk.injEq] at h;obtain ⟨rfl,rfl,rfl⟩ := h;exact ⟨_,rfl,rfl,Tryz.sizeOf48,Tryz.isAgg48⟩
 | 3,h => by simp only [List.getElem?_cons_zero,List.getElem?_cons_succ,Option.some.injEq,Prod.mk.injEq] at h;obtain ⟨rfl,rfl,rfl⟩ := h;exact ⟨_,rfl,rfl,Tryz.sizeOf47,Tryz.isAgg47⟩
 | 4,h => by simp only [List.getElem?_cons_zero,List.getElem?_cons_succ,Option.some.injEq,Prod.mk.injEq] at h;obtain ⟨rfl,rfl,rfl⟩ := h;exact ⟨_,rfl,rfl,Tryz.sizeOf48,Tryz.isAgg48⟩
 | (i + 5),h => by simp at h⟩
instance ty51 : Ty Tryz.prog 51 false 1 [.nilFunc] 8 := ⟨⟨Tryz.t51,_,by kernel_rfl,rfl,rfl,rfl,rfl⟩,Tryz.isAgg51,Tryz.sizeOf51,⟨_,Tryz.zeroValue51,rfl⟩,⟨_,Tryz.typeInfo51,rfl⟩⟩
instance hu51 : HasUnd Tryz.prog 51 := ⟨_,Tryz.runUnderlying51⟩
instance ty52 : Ty Tryz.prog 52 true 16 [.int .u8 0,.int .u64 0,.int .u64 0,.int .u64 0,.int .u64 0,.int .u64 0,.int .u64 0,.int .u64 0,.int .i64 0,.int .i64 0,.int .i64 0,.int .i64 0,.slice none 0 0,.slice none 0 0,.slice none 0 0,.slice none 0 0] 192 := ⟨⟨Tryz.t52,_,by kernel_rfl,rfl,rfl,rfl,rfl⟩,Tryz.isAgg52,Tryz.sizeOf52,⟨_,Tryz.zeroValue52,rfl⟩,⟨_,Tryz.typeInfo52,rfl⟩⟩
instance hu52 : HasUnd Tryz.prog 52 := ⟨_,Tryz.runUnderlying52⟩
instance ss52 : StTy Tryz.prog 52 [(0,1,false),(1,1,false),(2,1,false),(3,1,false),(4,1,false),(5,1,false),(6,1,false),(7,1,false),(8,1,false),(9,1,false),(10,1,false),(11,1,false),(12,1,false),(13,1,false),(14,1,false),(15,1,false)] := ⟨_,Tryz.runUnderlying52,rfl,fun i off sz ag h => match i,h with
 | 0,h => by simp only [List.getElem?_cons_zero,List.getElem?_cons_succ,Option.some.injEq,Prod.mk.injEq] at h;obtain ⟨rfl,rfl,rfl⟩ := h;exact ⟨_,rfl,rfl,Tryz.sizeOf5,Tryz.isAgg5⟩
 | 1,h => by simp only [List.getElem?_cons_zero,List.getElem?_cons_succ,Option.some.injEq,Prod.mk.injEq] at h;obtain ⟨rfl,rfl,rfl⟩ := h;exact ⟨_,rfl,rfl,Tryz.sizeOf29,Tryz.isAgg29⟩
 | 2,h => by simp only [List.getElem?_cons_zero,List.getElem?_cons_succ,Option.some.injEq,Prod.mk.injEq] at h;obtain ⟨rfl,rfl,rfl⟩ := h;exact ⟨_,rfl,rfl,Tryz.sizeOf29,Tryz.isAgg29⟩
 | 3,h => by simp only [List.getElem?_cons_zero,List.getElem?_cons_succ,Option.some.injEq,Prod.mk.injEq] at h;obtain ⟨rfl,rfl,rfl⟩ := h;exact ⟨_,rfl,rfl,Tryz.sizeOf29,Tryz.isAgg29⟩
 | 4,h => by simp only [List.getElem?_cons_zero,List.getElem?_cons_succ,Option.some.injEq,Prod.mk.injEq] at h;obtain ⟨rfl,rfl,rfl⟩ := h;exact ⟨_,rfl,rfl,Tryz.sizeOf29,Tryz.isAgg29⟩
 | 5,h => by simp only [List.getElem?_cons_zero,List.getElem?_cons_succ,Option.some.injEq,Prod.mk.injEq] at h;obtain ⟨rfl,rfl,rfl⟩ := h;exact ⟨_,rfl,rfl,Tryz.sizeOf29,Tryz.isAgg29⟩
 | 6,h => by simp only [List.getElem?_cons_zero,List.getElem?_cons_succ,Option.some.injEq,Prod.mk.injEq] at h;obtain ⟨rfl,rfl,rfl⟩ := h;exact ⟨_,rfl,rfl,Tryz.sizeOf29,Tryz.isAgg29⟩
 | 7,h => by simp only [List.getElem?_cons_zero,List.getElem?_cons_succ,Option.some.injEq,Prod.mk.injEq] at h;obtain ⟨rfl,rfl,rfl⟩ := h;exact ⟨_,rfl,rfl,Tryz.sizeOf29,Tryz.isAgg29⟩
 | 8,h => by simp only [List.getElem?_cons_zero,List.getElem?_cons_succ,Option.some.injEq,Prod.mk.injEq] at h;obtain ⟨rfl,rfl,rfl⟩ := h;exact ⟨_,rfl,rfl,Tryz.sizeOf3,Tryz.isAgg3⟩
 | 9,h => by simp only [List.getElem?_cons_zero,List.getElem?_cons_succ,Option.some.injEq,Prod.mk.injEq] at h;obtain ⟨rfl,rfl,rfl⟩ := h;exact ⟨_,rfl,rfl,Tryz.sizeOf3,Tryz.isAgg3⟩
 | 10,h => by simp only [List.getElem?_cons_zero,List.getElem?_cons_succ,Option.some.injEq,Prod.mk.injEq] at h;obtain ⟨rfl,rfl,rfl⟩ := h;exact ⟨_,rfl,rfl,Tryz.sizeOf25,Tryz.isAgg25⟩
 | 11,h => by simp only [List.getElem?_cons_zero,List.getElem?_cons_succ,Option.some.injEq,Prod.mk.injEq] at h;obtain ⟨rfl,rfl,rfl⟩ := h;exact ⟨_,rfl,rfl,Tryz.sizeOf3,Tryz.isAgg3⟩
 | 12,h => by simp only [List.getElem?_cons_zero,List.getElem?_cons_succ,Option.some.injEq,Prod.mk.injEq] at h;obtain ⟨rfl,rfl,rfl⟩ := h;exact ⟨_,rfl,rfl,Tryz.sizeOf34,Tryz.isAgg34⟩
 | 13,h => by simp only [List.getElem?_cons_zero,List.getElem?_cons_succ,Option.some.injEq,Prod.mk.injEq] at h;obtain ⟨rfl,rfl,rfl⟩ := h;exact ⟨_,rfl,rfl,Tryz.sizeOf35,Tryz.isAgg35⟩
 | 14,h => by simp only [List.getElem?_cons_zero,List.getElem?_cons_succ,Option.some.injEq,Prod.mk.injEq] at h;obtain ⟨rfl,rfl,rfl⟩ := h;exact ⟨_,rfl,rfl,Tryz.sizeOf36,Tryz.isAgg36⟩
 | 15,h => by simp only [List.getElem?_cons_zero,List.getElem?_cons_succ,Option.some.injEq,Prod.mk.injEq] at h;obtain ⟨rfl,rfl,rfl⟩ := h;exact ⟨_,rfl,rfl,Tryz.sizeOf37,Tryz.isAgg37⟩
 | (i + 16),h => by simp at h⟩
instance ty53 : Ty Tryz.prog 53 true 17 [.int .i64 0,.int .u8 0,.int .u64 0,.int .u64 0,.int .u64 0,.int .u64 0,.int .u64 0,.int .u64 0,.int .u64 0,.int .i64 0,.int .i64 0,.int .i64 0,.int .i64 0,.slice none 0 0,.slice none 0 0,.slice none 0 0,.slice none 0 0] 200 := ⟨⟨Tryz.t53,_,by kernel_rfl,rfl,rfl,rfl,rfl⟩,Tryz.isAgg53,Tryz.sizeOf53,⟨_,Tryz.zeroValue53,rfl⟩,⟨_,Tryz.typeInfo53,rfl⟩⟩
instance hu53 : HasUnd Tryz.prog 53 := ⟨_,Tryz.runUnderlying53⟩
instance ss53 : StTy Tryz.prog 53 [(0,1,false),(1,16,true)] := ⟨_,Tryz.runUnderlying53,rfl,fun i off sz ag h => match i,h with
 | 0,h => by simp only [List.getElem?_cons_zero,List.getElem?_cons_succ,Option.some.injEq,Prod.mk.injEq] at h;obtain ⟨rfl,rfl,rfl⟩ := h;exact ⟨_,rfl,rfl,Tryz.sizeOf3,Tryz.isAgg3⟩
 | 1,h => by simp only [List.getElem?_cons_zero,List.getElem?_cons_succ,Option.some.injEq,Prod.mk.injEq] at h;obtain ⟨rfl,rfl,rfl⟩ := h;exact ⟨_,rfl,rfl,Tryz.sizeOf52,Tryz.isAgg52⟩
 | (i + 2),h => by simp at h⟩
instance ty54 : Ty Tryz.prog 54 true 17 [.int .i64 0,.int .u8 0,.int .u64 0,.int .u64 0,.int .u64 0,.int .u64 0,.int .u64 0,.int .u64 0,.int .u64 0,.int .i64 0,.int .i64 0,.int .i64 0,.int .i64 0,.slice none 0 0,.slice none 0 0,.slice none 0 0,.slice none 0 0] 200 := ⟨⟨Tryz.t54,_,by kernel_rfl,rfl,rfl,rfl,rfl⟩,Tryz.isAgg54,Tryz.sizeOf54,⟨_,Tryz.zeroValue54,rfl⟩,⟨_,Tryz.typeInfo54,rfl⟩⟩
instance hu54 : HasUnd Tryz.prog 54 := ⟨_,Tryz.runUnderlying54⟩
instance ss54 : StTy Tryz.prog 54 [(0,1,false),(1,16,true)] := ⟨_,Tryz.runUnderlying54,rfl,fun i off sz ag h => match i,h with
 | 0,h => by simp only [List.getElem?_cons_zero,List.getElem?_cons_succ,Option.some.injEq,Prod.mk.injEq] at h;obtain ⟨rfl,rfl,rfl⟩ := h;exact ⟨_,rfl,rfl,Tryz.sizeOf3,Tryz.isAgg3⟩
 | 1,h => by simp only [List.getElem?_cons_zero,List.getElem?_cons_succ,Option.some.injEq,Prod.mk.injEq] at h;obtain ⟨rfl,rfl,rfl⟩ := h;exact ⟨_,rfl,rfl,Tryz.sizeOf52,Tryz.isAgg52⟩
 | (i + 2),h => by simp at h⟩
instance ty55 : Ty Tryz.prog 55 false 1 [.nilFunc] 8 := ⟨⟨Tryz.t55,_,by kernel_rfl,rfl,rfl,rfl,rfl⟩,Tryz.isAgg55,Tryz.sizeOf55,⟨_,Tryz.zeroValue55,rfl⟩,⟨_,Tryz.typeInfo55,rfl⟩⟩
instance hu55 : HasUnd Tryz.prog 55 := ⟨_,Tryz.runUnderlying55⟩
instance ty56 : Ty Tryz.prog 56 false 1 [.nilFunc] 8 := ⟨⟨Tryz.t56,_,by kernel_rfl,rfl,rfl,rfl,rfl⟩,Tryz.isAgg56,Tryz.sizeOf56,⟨_,Tryz.zeroValue56,rfl⟩,⟨_,Tryz.typeInfo56,rfl⟩⟩
instance hu56 : HasUnd Tryz.prog 56 := ⟨_,Tryz.runUnderlying56⟩
instance ty57 : Ty Tryz.prog 57 false 1 [.map none] 8 := ⟨⟨Tryz.t57,_,by kernel_rfl,rfl,rfl,rfl,rfl⟩,Tryz.isAgg57,Tryz.sizeOf57,⟨_,Tryz.zeroValue57,rfl⟩,⟨_,Tryz.typeInfo57,rfl⟩⟩
instance hu57 : HasUnd Tryz.prog 57 := ⟨_,Tryz.runUnderlying57⟩
instance mt57 : MapTy Tryz.prog 57 29 3 := ⟨Tryz.runUnderlying57,Tryz.underlying57⟩
instance ty58 : Ty Tryz.prog 58 false 1 [.nilFunc] 8 := ⟨⟨Tryz.t58,_,by kernel_rfl,rfl,rfl,rfl,rfl⟩,Tryz.isAgg58,Tryz.sizeOf58,⟨_,Tryz.zeroValue58,rfl⟩,⟨_,Tryz.typeInfo58,rfl⟩⟩
instance hu58 : HasUnd Tryz.prog 58 := ⟨_,Tryz.runUnderlying58⟩
instance ty59 : Ty Tryz.prog 59 false 1 [.nilFunc] 8 := ⟨⟨Tryz.t59,_,by kernel_rfl,rfl,rfl,rfl,rfl⟩,Tryz.isAgg59,Tryz.sizeOf59,⟨_,Tryz.zeroValue59,rfl⟩,⟨_,Tryz.typeInfo59,rfl⟩⟩
instance hu59 : HasUnd Tryz.prog 59 := ⟨_,Tryz.runUnderlying59⟩
instance hu60 : HasUnd Tryz.prog 60 := ⟨_,Tryz.runUnderlying60⟩
instance ty61 : Ty Tryz.prog 61 false 1 [.nilFunc] 8 := ⟨⟨Tryz.t61,_,by kernel_rfl,rfl,rfl,rfl,rfl⟩,Tryz.isAgg61,Tryz.sizeOf61,⟨_,Tryz.zeroValue61,rfl⟩,⟨_,Tryz.typeInfo61,rfl⟩⟩
instance hu61 : HasUnd Tryz.prog 61 := ⟨_,Tryz.runUnderlying61⟩
instance ty62 : Ty Tryz.prog 62 false 1 [.nilFunc] 8 := ⟨⟨Tryz.t62,_,by kernel_rfl,rfl,rfl,rfl,rfl⟩,Tryz.isAgg62,Tryz.sizeOf62,⟨_,Tryz.zeroValue62,rfl⟩,⟨_,Tryz.typeInfo62,rfl⟩⟩
instance hu62 : HasUnd Tryz.prog 62 := ⟨_,Tryz.runUnderlying62⟩
instance ty63 : Ty Tryz.prog 63 false 1 [.nilFunc] 8 := ⟨⟨Tryz.t63,_,by kernel_rfl,rfl,rfl,rfl,rfl⟩,Tryz.isAgg63,Tryz.sizeOf63,⟨_,Tryz.zeroValue63,rfl⟩,⟨_,Tryz.typeInfo63,rfl⟩⟩
instance hu63 : HasUnd Tryz.prog 63 := ⟨_,Tryz.runUnderlying63⟩
instance ty64 : Ty Tryz.prog 64 false 1 [.nilFunc] 8 := ⟨⟨Tryz.t64,_,by kernel_rfl,rfl,rfl,rfl,rfl⟩,Tryz.isAgg64,Tryz.sizeOf64,⟨_,Tryz.zeroValue64,rfl⟩,⟨_,Tryz.typeInfo64,rfl⟩⟩
instance hu64 : HasUnd Tryz.prog 64 := ⟨_,Tryz.runUnderlying64⟩
instance ty65 : Ty Tryz.prog 65 false 1 [.nilFunc] 8 := ⟨⟨Tryz.t65,_,by kernel_rfl,rfl,rfl,rfl,rfl⟩,Tryz.isAgg65,Tryz.sizeOf65,⟨_,Tryz.zeroValue65,rfl⟩,⟨_,Tryz.typeInfo65,rfl⟩⟩
instance hu65 : HasUnd Tryz.prog 65 := ⟨_,Tryz.runUnderlying65⟩
instance ty66 : Ty Tryz.prog 66 false 1 [.map none] 8 := ⟨⟨Tryz.t66,_,by kernel_rfl,rfl,rfl,rfl,rfl⟩,Tryz.isAgg66,Tryz.sizeOf66,⟨_,Tryz.zeroValue66,rfl⟩,⟨_,Tryz.typeInfo66,rfl⟩⟩
instance hu66 : HasUnd Tryz.prog 66 := ⟨_,Tryz.runUnderlying66⟩
instance mt66 : MapTy Tryz.prog 66 29 4 := ⟨Tryz.runUnderlying66,Tryz.underlying66⟩
instance ty67 : Ty Tryz.prog 67 false 1 [.slice none 0 0] 24 := ⟨⟨Tryz.t67,_,by kernel_rfl,rfl,rfl,rfl,rfl⟩,Tryz.isAgg67,Tryz.sizeOf67,⟨_,Tryz.zeroValue67,rfl⟩,⟨_,Tryz.typeInfo67,rfl⟩⟩
instance hu67 : HasUnd Tryz.prog 67 := ⟨_,Tryz.runUnderlying67⟩
instance sl67 : SlTy Tryz.prog 67 5 := ⟨Tryz.runUnderlying67,Tryz.underlying67⟩
instance ty68 : Ty Tryz.prog 68 false 1 [.nilFunc] 8 := ⟨⟨Tryz.t68,_,by kernel_rfl,rfl,rfl,rfl,rfl⟩,Tryz.isAgg68,Tryz.sizeOf68,⟨_,Tryz.zeroValue68,rfl⟩,⟨_,Tryz.typeInfo68,rfl⟩⟩
instance hu68 : HasUnd Tryz.prog 68 := ⟨_,Tryz.runUnderlying68⟩
instance ty69 : Ty Tryz.prog 69 false 1 [.nilFunc] 8 := ⟨⟨Tryz.t69,_,by kernel_rfl,rfl,rfl,rfl,rfl⟩,Tryz.isAgg69,Tryz.sizeOf69,⟨_,Tryz.zeroValue69,rfl⟩,⟨_,Tryz.typeInfo69,rfl⟩⟩
instance hu69 : HasUnd Tryz.prog 69 := ⟨_,Tryz.runUnderlying69⟩
instance ty70 : Ty Tryz.prog 70 false 1 [.nilFunc] 8 := ⟨⟨Tryz.t70,_,by kernel_rfl,rfl,rfl,rfl,rfl⟩,Tryz.isAgg70,Tryz.sizeOf70,⟨_,Tryz.zeroValue70,rfl⟩,⟨_,Tryz.typeInfo70,rfl⟩⟩
instance hu70 : HasUnd Tryz.prog 70 := ⟨_,Tryz.runUnderlying70⟩
instance ty71 : Ty Tryz.prog 71 false 1 [.nilFunc] 8 := ⟨⟨Tryz.t71,_,by kernel_rfl,rfl,rfl,rfl,rfl⟩,Tryz.isAgg71,Tryz.sizeOf71,⟨_,Tryz.zeroValue71,rfl⟩,⟨_,Tryz.typeInfo71,rfl⟩⟩
instance hu71 : HasUnd Tryz.prog 71 := ⟨_,Tryz.runUnderlying71⟩
instance ty72 : Ty Tryz.prog 72 false 1 [.nilFunc] 8 := ⟨⟨Tryz.t72,_,by kernel_rfl,rfl,rfl,rfl,rfl⟩,Tryz.isAgg72,Tryz.sizeOf72,⟨_,Tryz.zeroValue72,rfl⟩,⟨_,Tryz.typeInfo72,rfl⟩⟩
instance hu72 : HasUnd Tryz.prog 72 := ⟨_,Tryz.runUnderlying72⟩
instance ty73 : Ty Tryz.prog 73 false 1 [.nilFunc] 8 := ⟨⟨Tryz.t73,_,by kernel_rfl,rfl,rfl,rfl,rfl⟩,Tryz.isAgg73,Tryz.sizeOf73,⟨_,Tryz.zeroValue73,rfl⟩,⟨_,Tryz.typeInfo73,rfl⟩⟩
instance hu73 : HasUnd Tryz.prog 73 := ⟨_,Tryz.runUnderlying73⟩
instance ty74 : Ty Tryz.prog 74 false 1 [.nilFunc] 8 := ⟨⟨Tryz.t74,_,by kernel_rfl,rfl,rfl,rfl,rfl⟩,Tryz.isAgg74,Tryz.sizeOf74,⟨_,Tryz.zeroValue74,rfl⟩,⟨_,Tryz.typeInfo74,rfl⟩⟩
instance hu74 : HasUnd Tryz.prog 74 := ⟨_,Tryz.runUnderlying74⟩
instance ty75 : Ty Tryz.prog 75 false 1 [.nilFunc] 8 := ⟨⟨Tryz.t75,_,by kernel_rfl,rfl,rfl,rfl,rfl⟩,Tryz.isAgg75,Tryz.sizeOf75,⟨_,Tryz.zeroValue75,rfl⟩,⟨_,Tryz.typeInfo75,rfl⟩⟩
instance hu75 : HasUnd Tryz.prog 75 := ⟨_,Tryz.runUnderlying75⟩
instance ty76 : Ty Tryz.prog 76 true 2 [.int .u64 0,.slice none 0 0] 32 := ⟨⟨Tryz.t76,_,by kernel_rfl,rfl,rfl,rfl,rfl⟩,Tryz.isAgg76,Tryz.sizeOf76,⟨_,Tryz.zeroValue76,rfl⟩,⟨_,Tryz.typeInfo76,rfl⟩⟩
instance hu76 : HasUnd Tryz.prog 76 := ⟨_,Tryz.runUnderlying76⟩
instance ss76 : StTy Tryz.prog 76 [(0,1,false),(1,1,false)] := ⟨_,Tryz.runUnderlying76,rfl,fun i off sz ag h => match i,h with
 | 0,h => by simp only [List.getElem?_cons_zero,List.getElem?_cons_succ,Option.some.injEq,Prod.mk.injEq] at h;obtain ⟨rfl,rfl,rfl⟩ := h;exact ⟨_,rfl,rfl,Tryz.sizeOf29,Tryz.isAgg29⟩
 | 1,h => by simp only [List.getElem?_cons_zero,List.getElem?_cons_succ,Option.some.injEq,Prod.mk.injEq] at h;obtain ⟨rfl,rfl,rfl⟩ := h;exact ⟨_,rfl,rfl,Tryz.sizeOf36,Tryz.isAgg36⟩
 | (i + 2),h => by simp at h⟩
instance ty77 : Ty Tryz.prog 77 true 2 [.int .u64 0,.slice none 0 0] 32 := ⟨⟨Tryz.t77,_,by kernel_rfl,rfl,rfl,rfl,rfl⟩,Tryz.isAgg77,Tryz.sizeOf77,⟨_,Tryz.zeroValue77,rfl⟩,⟨_,Tryz.typeInfo77,rfl⟩⟩
instance hu77 : HasUnd Tryz.prog 77 := ⟨_,Tryz.runUnderlying77⟩
instance ss77 : StTy Tryz.prog 77 [(0,1,false),(1,1,false)] := ⟨_,Tryz.runUnderlying77,rfl,fun i off sz ag h => match i,h with
 | 0,h => by simp only [List.getElem?_cons_zero,List.getElem?_cons_succ,Option.some.injEq,Prod.mk.injEq] at h;obtain ⟨rfl,rfl,rfl⟩ := h;exact ⟨_,rfl,rfl,Tryz.sizeOf29,Tryz.isAgg29⟩
 | 1,h => by simp only [List.getElem?_cons_zero,List.getElem?_cons_succ,Option.some.injEq,Prod.mk.injEq] at h;obtain ⟨rfl,rfl,rfl⟩ := h;exact ⟨_,rfl,rfl,Tryz.sizeOf36,Tryz.isAgg36⟩
 | (i + 2),h => by simp at h⟩
instance ty78 : Ty Tryz.prog 78 false 1 [.map none] 8 := ⟨⟨Tryz.t78,_,by kernel_rfl,rfl,rfl,rfl,rfl⟩,Tryz.isAgg78,Tryz.sizeOf78,⟨_,Tryz.zeroValue78,rfl⟩,⟨_,Tryz.typeInfo78,rfl⟩⟩
instance hu78 : HasUnd Tryz.prog 78 := ⟨_,Tryz.runUnderlying78⟩
instance mt78 : MapTy Tryz.prog 78 29 96 := ⟨Tryz.runUnderlying78,Tryz.underlying78⟩
instance ty79 : Ty Tryz.prog 79 false 1 [.map none] 8 := ⟨⟨Tryz.t79,_,by kernel_rfl,rfl,rfl,rfl,rfl⟩,Tryz.isAgg79,Tryz.sizeOf79,⟨_,Tryz.zeroValue79,rfl⟩,⟨_,Tryz.typeInfo79,rfl⟩⟩
instance hu79 : HasUnd Tryz.prog 79 := ⟨_,Tryz.runUnderlying79⟩
instance mt79 : MapTy Tryz.prog 79 29 29 := ⟨Tryz.runUnderlying79,Tryz.underlying79⟩
instance ty80 : Ty Tryz.prog 80 true 7 [.int .i64 0,.int .i64 0,.int .u64 0,.int .u64 0,.int .u64 0,.map none,.map none] 56 := ⟨⟨Tryz.t80,_,by kernel_rfl,rfl,rfl,rfl,rfl⟩,Tryz.isAgg80,Tryz.sizeOf80,⟨_,Tryz.zeroValue80,rfl⟩,⟨_,Tryz.typeInfo80,rfl⟩⟩
instance hu80 : HasUnd Tryz.prog 80 := ⟨_,Tryz.runUnderlying80⟩
instance ss80 : StTy Tryz.prog 80 [(0,1,false),(1,1,false),(2,1,false),(3,1,false),(4,1,false),(5,1,false),(6,1,false)] := ⟨_,Tryz.runUnderlying80,rfl,fun i off sz ag h => match i,h with
 | 0,h => by simp only [List.getElem?_cons_zero,List.getElem?_cons_succ,Option.some.injEq,Prod.mk.injEq] at h;obtain ⟨rfl,rfl,rfl⟩ := h;exact ⟨_,rfl,rfl,Tryz.sizeOf3,Tryz.isAgg3⟩
 | 1,h => by simp only [List.getElem?_cons_zero,List.getElem?_cons_succ,Option.some.injEq,Prod.mk.injEq] at h;obtain ⟨rfl,rfl,rfl⟩ := h;exact ⟨_,rfl,rfl,Tryz.sizeOf3,Tryz.isAgg3⟩
 | 2,h => by simp only [List.getElem?_cons_zero,List.getElem?_cons_succ,Option.some.injEq,Prod.mk.injEq] at h;obtain ⟨rfl,rfl,rfl⟩ := h;exact ⟨_,rfl,rfl,Tryz.sizeOf29,Tryz.isAgg29⟩
 | 3,h => by simp only [List.getElem?_cons_zero,List.getElem?_cons_succ,Option.some.injEq,Prod.mk.injEq] at h;obtain ⟨rfl,rfl,rfl⟩ := h;exact ⟨_,rfl,rfl,Tryz.sizeOf29,Tryz.isAgg29⟩
 | 4,h => by simp only [List.getElem?_cons_zero,List.getElem?_cons_succ,Option.some.injEq,Prod.mk.injEq] at h;obtain ⟨rfl,rfl,rfl⟩ := h;exact ⟨_,rfl,rfl,Tryz.sizeOf29,Tryz.isAgg29⟩
 | 5,h => by simp only [List.getElem?_cons_zero,List.getElem?_cons_succ,Option.some.injEq,Prod.mk.injEq] at h;obtain ⟨rfl,rfl,rfl⟩ := h;exact ⟨_,rfl,rfl,Tryz.sizeOf78,Tryz.isAgg78⟩
 | 6,h => by simp only [List.getElem?_cons_zero,List.getElem?_cons_succ,Option.some.injEq,Prod.mk.injEq] at h;obtain ⟨rfl,rfl,rfl⟩ := h;exact ⟨_,rfl,rfl,Tryz.sizeOf79,Tryz.isAgg79⟩
 | (i + 7),h => by simp at h⟩
instance ty81 : Ty Tryz.prog 81 true 7 [.int .i64 0,.int .i64 0,.int .u64 0,.int .u64 0,.int .u64 0,.map none,.map none] 56 := ⟨⟨Tryz.t81,_,by kernel_rfl,rfl,rfl,rfl,rfl⟩,Tryz.isAgg81,Tryz.sizeOf81,⟨_,Tryz.zeroValue81,rfl⟩,⟨_,Tryz.typeInfo81,rfl⟩⟩
instance hu81 : HasUnd Tryz.prog 81 := ⟨_,Tryz.runUnderlying81⟩
instance ss81 : StTy Tryz.prog 81 [(0,1,false),(1,1,false),(2,1,false),(3,1,false),(4,1,false),(5,1,false),(6,1,false)] := ⟨_,Tryz.runUnderlying81,rfl,fun i off sz ag h => match i,h with
 | 0,h => by simp only [List.getElem?_cons_zero,List.getElem?_cons_succ,Option.some.injEq,Prod.mk.injEq] at h;obtain ⟨rfl,rfl,rfl⟩ := h;exact ⟨_,rfl,rfl,Tryz.sizeOf3,Tryz.isAgg3⟩
 | 1,h => by simp only [List.getElem?_cons_zero,List.getElem?_cons_succ,Option.some.injEq,Prod.mk.injEq] at h;obtain ⟨rfl,rfl,rfl⟩ := h;exact ⟨_,rfl,rfl,Tryz.sizeOf3,Tryz.isAgg3⟩
 | 2,h => by simp only [List.getElem?_cons_zero,List.getElem?_cons_succ,Option.some.injEq,Prod.mk.injEq] at h;obtain ⟨rfl,rfl,rfl⟩ := h;exact ⟨_,rfl,rfl,Tryz.sizeOf29,Tryz.isAgg29⟩
 | 3,h => by simp only [List.getElem?_cons_zero,List.getElem?_cons_succ,Option.some.injEq,Prod.mk.injEq] at h;obtain ⟨rfl,rfl,rfl⟩ := h;exact ⟨_,rfl,rfl,Tryz.sizeOf29,Tryz.isAgg29⟩
 | 4,h => by simp only [List.getElem?_cons_zero,List.getElem?_cons_succ,Option.some.injEq,Prod.mk.injEq] at h;obtain ⟨rfl,rfl,rfl⟩ := h;exact ⟨_,rfl,rfl,Tryz.sizeOf29,Tryz.isAgg29⟩
 | 5,h => by simp only [List.getElem?_cons_zero,List.getElem?_cons_succ,Option.some.injEq,Prod.mk.injEq] at h;obtain ⟨rfl,rfl,rfl⟩ := h;exact ⟨_,rfl,rfl,Tryz.sizeOf78,Tryz.isAgg78⟩
 | 6,h => by simp only [List.getElem?_cons_zero,List.getElem?_cons_succ,Option.some.injEq,Prod.mk.injEq] at h;obtain ⟨rfl,rfl,rfl⟩ := h;exact ⟨_,rfl,rfl,Tryz.sizeOf79,Tryz.isAgg79⟩
 | (i + 7),h => by simp at h⟩
instance ty82 : Ty Tryz.prog 82 false 1 [.nilFunc] 8 := ⟨⟨Tryz.t82,_,by kernel_rfl,rfl,rfl,rfl,rfl⟩,Tryz.isAgg82,Tryz.sizeOf82,⟨_,Tryz.zeroValue82,rfl⟩,⟨_,Tryz.typeInfo82,rfl⟩⟩
instance hu82 : HasUnd Tryz.prog 82 := ⟨_,Tryz.runUnderlying82⟩
instance ty83 : Ty Tryz.prog 83 false 1 [.nilFunc] 8 := ⟨⟨Tryz.t83,_,by kernel_rfl,rfl,rfl,rfl,rfl⟩,Tryz.isAgg83,Tryz.sizeOf83,⟨_,Tryz.zeroValue83,rfl⟩,⟨_,Tryz.typeInfo83,rfl⟩⟩
instance hu83 : HasUnd Tryz.prog 83 := ⟨_,Tryz.runUnderlying83⟩
instance ty84 : Ty Tryz.prog 84 false 1 [.nilFunc] 8 := ⟨⟨Tryz.t84,_,by kernel_rfl,rfl,rfl,rfl,rfl⟩,Tryz.isAgg84,Tryz.sizeOf84,⟨_,Tryz.zeroValue84,rfl⟩,⟨_,Tryz.typeInfo84,rfl⟩⟩
instance hu84 : HasUnd Tryz.prog 84 := ⟨_,Tryz.runUnderlying84⟩
instance ty85 : Ty Tryz.prog 85 false 1 [.slice none 0 0] 24 := ⟨⟨Tryz.t85,_,by kernel_rfl,rfl,rfl,rfl,rfl⟩,Tryz.isAgg85,Tryz.sizeOf85,⟨_,Tryz.zeroValue85,rfl⟩,⟨_,Tryz.typeInfo85,rfl⟩⟩
instance hu85 : HasUnd Tryz.prog 85 := ⟨_,Tryz.runUnderlying85⟩
instance sl85 : SlTy Tryz.prog 85 39 := ⟨Tryz.runUnderlying85,Tryz.underlying85⟩
instance ty86 : Ty Tryz.prog 86 false 1 [.slice none 0 0] 24 := ⟨⟨Tryz.t86,_,by kernel_rfl,rfl,rfl,rfl,rfl⟩,Tryz.isAgg86,Tryz.sizeOf86,⟨_,Tryz.zeroValue86,rfl⟩,⟨_,Tryz.typeInfo86,rfl⟩⟩
instance hu86 : HasUnd Tryz.prog 86 := ⟨_,Tryz.runUnderlying86⟩
instance sl86 : SlTy Tryz.prog 86 155 := ⟨Tryz.runUnderlying86,Tryz.underlying86⟩
instance ty87 : Ty Tryz.prog 87 true 5 [.slice none 0 0,.slice none 0 0,.slice none 0 0,.slice none 0 0,.slice none 0 0] 120 := ⟨⟨Tryz.t87,_,by kernel_rfl,rfl,rfl,rfl,rfl⟩,Tryz.isAgg87,Tryz.sizeOf87,⟨_,Tryz.zeroValue87,rfl⟩,⟨_,Tryz.typeInfo87,rfl⟩⟩
instance hu87 : HasUnd Tryz.prog 87 := ⟨_,Tryz.runUnderlying87⟩
instance ss87 : StTy Tryz.prog 87 [(0,1,false),(1,1,false),(2,1,false),(3,1,false),(4,1,false)] := ⟨_,Tryz.runUnderlying87,rfl,fun i off sz ag h => match i,h with
 | 0,h => by simp only [List.getElem?_cons_zero,List.getElem?_cons_succ,Option.some.injEq,Prod.mk.injEq] at h;obtain ⟨rfl,rfl,rfl⟩ := h;exact ⟨_,rfl,rfl,Tryz.sizeOf85,Tryz.isAgg85⟩
 | 1,h => by simp only [List.getElem?_cons_zero,List.getElem?_cons_succ,Option.some.injEq,Prod.mk.injEq] at h;obtain ⟨rfl,rfl,rfl⟩ := h;exact ⟨_,rfl,rfl,Tryz.sizeOf85,Tryz.isAgg85⟩
 | 2,h => by simp only [List.getElem?_cons_zero,List.getElem?_cons_succ,Option.some.injEq,Prod.mk.injEq] at h;obtain ⟨rfl,rfl,rfl⟩ := h;exact ⟨_,rfl,rfl,Tryz.sizeOf86,Tryz.isAgg86⟩
 | 3,h => by simp only [List.getElem?_cons_zero,List.getElem?_cons_succ,Option.some.injEq,Prod.mk.injEq] at h;obtain ⟨rfl,rfl,rfl⟩ := h;exact ⟨_,rfl,rfl,Tryz.sizeOf85,Tryz.isAgg85⟩
 | 4,h => by simp only [List.getElem?_cons_zero,List.getElem?_cons_succ,Option.some.injEq,Prod.mk.injEq] at h;obtain ⟨rfl,rfl,rfl⟩ := h;exact ⟨_,rfl,rfl,Tryz.sizeOf86,Tryz.isAgg86⟩
 | (i + 5),h => by simp at h⟩
instance ty88 : Ty Tryz.prog 88 true 5 [.slice none 0 0,.slice none 0 0,.slice none 0 0,.slice none 0 0,.slice none 0 0] 120 := ⟨⟨Tryz.t88,_,by kernel_rfl,rfl,rfl,rfl,rfl⟩,Tryz.isAgg88,Tryz.sizeOf88,⟨_,Tryz.zeroValue88,rfl⟩,⟨_,Tryz.typeInfo88,rfl⟩⟩
instance hu88 : HasUnd Tryz.prog 88 := ⟨_,Tryz.runUnderlying88⟩
instance ss88 : StTy Tryz.prog 88 [(0,1,false),(1,1,false),(2,1,false),(3,1,false),(4,1,false)] := ⟨_,Tryz.runUnderlying88,rfl,fun i off sz ag h => match i,h with
 | 0,h => by simp only [List.getElem?_cons_zero,List.getElem?_cons_succ,Option.some.injEq,Prod.mk.injEq] at h;obtain ⟨rfl,rfl,rfl⟩ := h;exact ⟨_,rfl,rfl,Tryz.sizeOf85,Tryz.isAgg85⟩
 | 1,h => by simp only [List.getElem?_cons_zero,List.getElem?_cons_succ,Option.some.injEq,Prod.mk.injEq] at h;obtain ⟨rfl,rfl,rfl⟩ := h;exact ⟨_,rfl,rfl,Tryz.sizeOf85,Tryz.isAgg85⟩
 | 2,h => by simp only [List.getElem?_cons_zero,List.getElem?_cons_succ,Option.some.injEq,Prod.mk.injEq] at h;obtain ⟨rfl,rfl,rfl⟩ := h;exact ⟨_,rfl,rfl,Tryz.sizeOf86,Tryz.isAgg86⟩
 | 3,h => by simp only [List.getElem?_cons_zero,List.getElem?_cons_succ,Option.some.injEq,Prod.mk.injEq] at h;obtain ⟨rfl,rfl,rfl⟩ := h;exact ⟨_,rfl,rfl,Tryz.sizeOf85,Tryz.isAgg85⟩
 | 4,h => by simp only [List.getElem?_cons_zero,List.getElem?_cons_succ,Option.some.injEq,Prod.mk.injEq] at h;obtain ⟨rfl,rfl,rfl⟩ := h;exact ⟨_,rfl,rfl,Tryz.sizeOf86,Tryz.isAgg86⟩
 | (i + 5),h => by simp at h⟩
instance ty89 : Ty Tryz.prog 89 false 1 [.nilFunc] 8 := ⟨⟨Tryz.t89,_,by kernel_rfl,rfl,rfl,rfl,rfl⟩,Tryz.isAgg89,Tryz.sizeOf89,⟨_,Tryz.zeroValue89,rfl⟩,⟨_,Tryz.typeInfo89,rfl⟩⟩
instance hu89 : HasUnd Tryz.prog 89 := ⟨_,Tryz.runUnderlying89⟩
instance ty90 : Ty Tryz.prog 90 false 1 [.nilFunc] 8 := ⟨⟨Tryz.t90,_,by kernel_rfl,rfl,rfl,rfl,rfl⟩,Tryz.isAgg90,Tryz.sizeOf90,⟨_,Tryz.zeroValue90,rfl⟩,⟨_,Tryz.typeInfo90,rfl⟩⟩
instance hu90 : HasUnd Tryz.prog 90 := ⟨_,Tryz.runUnderlying90⟩
instance ty91 : Ty Tryz.prog 91 false 1 [.nilFunc] 8 := ⟨⟨Tryz.t91,_,by kernel_rfl,rfl,rfl,rfl,rfl⟩,Tryz.isAgg91,Tryz.sizeOf91,⟨_,Tryz.zeroValue91,rfl⟩,⟨_,Tryz.typeInfo91,rfl⟩⟩
instance hu91 : HasUnd Tryz.prog 91 := ⟨_,Tryz.runUnderlying91⟩
instance ty92 : Ty Tryz.prog 92 false 1 [.slice none 0 0] 24 := ⟨⟨Tryz.t92,_,by kernel_rfl,rfl,rfl,rfl,rfl⟩,Tryz.isAgg92,Tryz.sizeOf92,⟨_,Tryz.zeroValue92,rfl⟩,⟨_,Tryz.typeInfo92,rfl⟩⟩
instance hu92 : HasUnd Tryz.prog 92 := ⟨_,Tryz.runUnderlying92⟩
instance sl92 : SlTy Tryz.prog 92 29 := ⟨Tryz.runUnderlying92,Tryz.underlying92⟩
instance ty93 : Ty Tryz.prog 93 false 1 [.nilFunc] 8 := ⟨⟨Tryz.t93,_,by kernel_rfl,rfl,rfl,rfl,rfl⟩,Tryz.isAgg93,Tryz.sizeOf93,⟨_,Tryz.zeroValue93,rfl⟩,⟨_,Tryz.typeInfo93,rfl⟩⟩
instance hu93 : HasUnd Tryz.prog 93 := ⟨_,Tryz.runUnderlying93⟩
instance ty94 : Ty Tryz.prog 94 true 9 [.int .u64 0,.int .u64 0,.int .u64 0,.int .u64 0,.int .i64 0,.slice none 0 0,.slice none 0 0,.slice none 0 0,.slice none 0 0] 136 := ⟨⟨Tryz.t94,_,by kernel_rfl,rfl,rfl,rfl,rfl⟩,Tryz.isAgg94,Tryz.sizeOf94,⟨_,Tryz.zeroValue94,rfl⟩,⟨_,Tryz.typeInfo94,rfl⟩⟩
instance hu94 : HasUnd Tryz.prog 94 := ⟨_,Tryz.runUnderlying94⟩
instance ss94 : StTy Tryz.prog 94 [(0,8,true),(8,1,false)] := ⟨_,Tryz.runUnderlying94,rfl,fun i off sz ag h => match i,h with
 | 0,h => by simp only [List.getElem?_cons_zero,List.getElem?_cons_succ,Option.some.injEq,Prod.mk.injEq] at h;obtain ⟨rfl,rfl,rfl⟩ := h;exact ⟨_,rfl,rfl,Tryz.sizeOf46,Tryz.isAgg46⟩
 | 1,h => by simp only [List.getElem?_cons_zero,List.getElem?_cons_succ,Option.some.injEq,Prod.mk.injEq] at h;obtain ⟨rfl,rfl,rfl⟩ := h;exact ⟨_,rfl,rfl,Tryz.sizeOf35,Tryz.isAgg35⟩
 | (i + 2),h => by simp at h⟩
instance ty95 : Ty Tryz.prog 95 true 9 [.int .u64 0,.int .u64 0,.int .u64 0,.int .u64 0,.int .i64 0,.slice none 0 0,.slice none 0 0,.slice none 0 0,.slice none 0 0] 136 := ⟨⟨Tryz.t95,_,by kernel_rfl,rfl,rfl,rfl,rfl⟩,Tryz.isAgg95,Tryz.sizeOf95,⟨_,Tryz.zeroValue95,rfl⟩,⟨_,Tryz.typeInfo95,rfl⟩⟩
instance hu95 : HasUnd Tryz.prog 95 := ⟨_,Tryz.runUnderlying95⟩
instance ss95 : StTy Tryz.prog 95 [(0,8,true),(8,1,false)] := ⟨_,Tryz.runUnderlying95,rfl,fun i off sz ag h => match i,h with
 | 0,h => by simp only [List.getElem?_cons_zero,List.getElem?_cons_succ,Option.some.injEq,Prod.mk.injEq] at h;obtain ⟨rfl,rfl,rfl⟩ := h;exact ⟨_,rfl,rfl,Tryz.sizeOf46,Tryz.isAgg46⟩
 | 1,h => by simp only [List.getElem?_cons_zero,List.getElem?_cons_succ,Option.some.injEq,Prod.mk.injEq] at h;obtain ⟨rfl,rfl,rfl⟩ := h;exact ⟨_,rfl,rfl,Tryz.sizeOf35,Tryz.isAgg35⟩
 | (i + 2),h => by simp at h⟩
instance ty96 : Ty Tryz.prog 96 false 1 [.pointer none] 8 := ⟨⟨Tryz.t96,_,by kernel_rfl,rfl,rfl,rfl,rfl⟩,Tryz.isAgg96,Tryz.sizeOf96,⟨_,Tryz.zeroValue96,rfl⟩,⟨_,Tryz.typeInfo96,rfl⟩⟩
instance hu96 : HasUnd Tryz.prog 96 := ⟨_,Tryz.runUnderlying96⟩
instance pt96 : PtrTy Tryz.prog 96 95 := ⟨Tryz.runUnderlying96,Tryz.underlying96⟩
instance ty97 : Ty Tryz.prog 97 false 1 [.nilFunc] 8 := ⟨⟨Tryz.t97,_,by kernel_rfl,rfl,rfl,rfl,rfl⟩,Tryz.isAgg97,Tryz.sizeOf97,⟨_,Tryz.zeroValue97,rfl⟩,⟨_,Tryz.typeInfo97,rfl⟩⟩
instance hu97 : HasUnd Tryz.prog 97 := ⟨_,Tryz.runUnderlying97⟩
instance ty98 : Ty Tryz.prog 98 false 1 [.nilFunc] 8 := ⟨⟨Tryz.t98,_,by kernel_rfl,rfl,rfl,rfl,rfl⟩,Tryz.isAgg98,Tryz.sizeOf98,⟨_,Tryz.zeroValue98,rfl⟩,⟨_,Tryz.typeInfo98,rfl⟩⟩
instance hu98 : HasUnd Tryz.prog 98 := ⟨_,Tryz.runUnderlying98⟩
instance ty99 : Ty Tryz.prog 99 false 1 [.nilFunc] 8 := ⟨⟨Tryz.t99,_,by kernel_rfl,rfl,rfl,rfl,rfl⟩,Tryz.isAgg99,Tryz.sizeOf99,⟨_,Tryz.zeroValue99,rfl⟩,⟨_,Tryz.typeInfo99,rfl⟩⟩
instance hu99 : HasUnd Tryz.prog 99 := ⟨_,Tryz.runUnderlying99⟩
instance ty100 : Ty Tryz.prog 100 false 1 [.nilFunc] 8 := ⟨⟨Tryz.t100,_,by kernel_rfl,rfl,rfl,rfl,rfl⟩,Tryz.isAgg100,Tryz.sizeOf100,⟨_,Tryz.zeroValue100,rfl⟩,⟨_,Tryz.typeInfo100,rfl⟩⟩
instance hu100 : HasUnd Tryz.prog 100 := ⟨_,Tryz.runUnderlying100⟩
instance ty101 : Ty Tryz.prog 101 false 1 [.nilFunc] 8 := ⟨⟨Tryz.t101,_,by kernel_rfl,rfl,rfl,rfl,rfl⟩,Tryz.isAgg101,Tryz.sizeOf101,⟨_,Tryz.zeroValue101,rfl⟩,⟨_,Tryz.typeInfo101,rfl⟩⟩
instance hu101 : HasUnd Tryz.prog 101 := ⟨_,Tryz.runUnderlying101⟩
instance ty102 : Ty Tryz.prog 102 false 1 [.nilFunc] 8 := ⟨⟨Tryz.t102,_,by kernel_rfl,rfl,rfl,rfl,rfl⟩,Tryz.isAgg102,Tryz.sizeOf102,⟨_,Tryz.zeroValue102,rfl⟩,⟨_,Tryz.typeInfo102,rfl⟩⟩
instance hu102 : HasUnd Tryz.prog 102 := ⟨_,Tryz.runUnderlying102⟩
instance ty103 : Ty Tryz.prog 103 false 1 [.nilFunc] 8 := ⟨⟨Tryz.t103,_,by kernel_rfl,rfl,rfl,rfl,rfl⟩,Tryz.isAgg103,Tryz.sizeOf103,⟨_,Tryz.zeroValue103,rfl⟩,⟨_,Tryz.typeInfo103,rfl⟩⟩
instance hu103 : HasUnd Tryz.prog 103 := ⟨_,Tryz.runUnderlying103⟩
instance ty104 : Ty Tryz.prog 104 false 1 [.nilFunc] 8 := ⟨⟨Tryz.t104,_,by kernel_rfl,rfl,rfl,rfl,rfl⟩,Tryz.isAgg104,Tryz.sizeOf104,⟨_,Tryz.zeroValue104,rfl⟩,⟨_,Tryz.typeInfo104,rfl⟩⟩
instance hu104 : HasUnd Tryz.prog 104 := ⟨_,Tryz.runUnderlying104⟩
instance ty105 : Ty Tryz.prog 105 false 1 [.nilFunc] 8 := ⟨⟨Tryz.t105,_,by kernel_rfl,rfl,rfl,rfl,rfl⟩,Tryz.isAgg105,Tryz.sizeOf105,⟨_,Tryz.zeroValue105,rfl⟩,⟨_,Tryz.typeInfo105,rfl⟩⟩
instance hu105 : HasUnd Tryz.prog 105 := ⟨_,Tryz.runUnderlying105⟩
instance hu106 : HasUnd Tryz.prog 106 := ⟨_,Tryz.runUnderlying106⟩
instance ty107 : Ty Tryz.prog 107 false 1 [.nilFunc] 8 := ⟨⟨Tryz.t107,_,by kernel_rfl,rfl,rfl,rfl,rfl⟩,Tryz.isAgg107,Tryz.sizeOf107,⟨_,Tryz.zeroValue107,rfl⟩,⟨_,Tryz.typeInfo107,rfl⟩⟩
instance hu107 : HasUnd Tryz.prog 107 := ⟨_,Tryz.runUnderlying107⟩
instance ty108 : Ty Tryz.prog 108 false 1 [.nilFunc] 8 := ⟨⟨Tryz.t108,_,by kernel_rfl,rfl,rfl,rfl,rfl⟩,Tryz.isAgg108,Tryz.sizeOf108,⟨_,Tryz.zeroValue108,rfl⟩,⟨_,Tryz.typeInfo108,rfl⟩⟩
instance hu108 : HasUnd Tryz.prog 108 := ⟨_,Tryz.runUnderlying108⟩
instance ty109 : Ty Tryz.prog 109 false 1 [.nilFunc] 8 := ⟨⟨Tryz.t109,_,by kernel_rfl,rfl,rfl,rfl,rfl⟩,Tryz.isAgg109,Tryz.sizeOf109,⟨_,Tryz.zeroValue109,rfl⟩,⟨_,Tryz.typeInfo109,rfl⟩⟩
instance hu109 : HasUnd Tryz.prog 109 := ⟨_,Tryz.runUnderlying109⟩
instance ty110 : Ty Tryz.prog 110 true 3 [.int .u64 0,.int .u64 0,.slice none 0 0] 40 := ⟨⟨Tryz.t110,_,by kernel_rfl,rfl,rfl,rfl,rfl⟩,Tryz.isAgg110,Tryz.sizeOf110,⟨_,Tryz.zeroValue110,rfl⟩,⟨_,Tryz.typeInfo110,rfl⟩⟩
instance hu110 : HasUnd Tryz.prog 110 := ⟨_,Tryz.runUnderlying110⟩
instance ss110 : StTy Tryz.prog 110 [(0,1,false),(1,1,false),(2,1,false)] := ⟨_,Tryz.runUnderlying110,rfl,fun i off sz ag h => match i,h with
 | 0,h => by simp only [List.getElem?_cons_zero,List.getElem?_cons_succ,Option.some.injEq,Prod.mk.injEq] at h;obtain ⟨rfl,rfl,rfl⟩ := h;exact ⟨_,rfl,rfl,Tryz.sizeOf29,Tryz.isAgg29⟩
 | 1,h => by simp only [List.getElem?_cons_zero,List.getElem?_cons_succ,Option.some.injEq,Prod.mk.injEq] at h;obtain ⟨rfl,rfl,rfl⟩ := h;exact ⟨_,rfl,rfl,Tryz.sizeOf29,Tryz.isAgg29⟩
 | 2,h => by simp only [List.getElem?_cons_zero,List.getElem?_cons_succ,Option.some.injEq,Prod.mk.injEq] at h;obtain ⟨rfl,rfl,rfl⟩ := h;exact ⟨_,rfl,rfl,Tryz.sizeOf36,Tryz.isAgg36⟩
 | (i + 3),h => by simp at h⟩
instance ty111 : Ty Tryz.prog 111 true 3 [.int .u64 0,.int .u64 0,.slice none 0 0] 40 := ⟨⟨Tryz.t111,_,by kernel_rfl,rfl,rfl,rfl,rfl⟩,Tryz.isAgg111,Tryz.sizeOf111,⟨_,Tryz.zeroValue111,rfl⟩,⟨_,Tryz.typeInfo111,rfl⟩⟩
instance hu111 : HasUnd Tryz.prog 111 := ⟨_,Tryz.runUnderlying111⟩
instance ss111 : StTy Tryz.prog 111 [(0,1,false),(1,1,false),(2,1,false)] := ⟨_,Tryz.runUnderlying111,rfl,fun i off sz ag h => match i,h with
 | 0,h => by simp only [List.getElem?_cons_zero,List.getElem?_cons_succ,Option.some.injEq,Prod.mk.injEq] at h;obtain ⟨rfl,rfl,rfl⟩ := h;exact ⟨_,rfl,rfl,Tryz.sizeOf29,Tryz.isAgg29⟩
 | 1,h => by simp only [List.getElem?_cons_zero,List.getElem?_cons_succ,Option.some.injEq,Prod.mk.injEq] at h;obtain ⟨rfl,rfl,rfl⟩ := h;exact ⟨_,rfl,rfl,Tryz.sizeOf29,Tryz.isAgg29⟩
 | 2,h => by simp only [List.getElem?_cons_zero,List.getElem?_cons_succ,Option.some.injEq,Prod.mk.injEq] at h;obtain ⟨rfl,rfl,rfl⟩ := h;exact ⟨_,rfl,rfl,Tryz.sizeOf36,Tryz.isAgg36⟩
 | (i + 3),h => by simp at h⟩
instance ty112 : Ty Tryz.prog 112 false 1 [.nilFunc] 8 := ⟨⟨Tryz.t112,_,by kernel_rfl,rfl,rfl,rfl,rfl⟩,Tryz.isAgg112,Tryz.sizeOf112,⟨_,Tryz.zeroValue112,rfl⟩,⟨_,Tryz.typeInfo112,rfl⟩⟩
instance hu112 : HasUnd Tryz.prog 112 := ⟨_,Tryz.runUnderlying112⟩
instance ty113 : Ty Tryz.prog 113 false 1 [.nilFunc] 8 := ⟨⟨Tryz.t113,_,by kernel_rfl,rfl,rfl,rfl,rfl⟩,Tryz.isAgg113,Tryz.sizeOf113,⟨_,Tryz.zeroValue113,rfl⟩,⟨_,Tryz.typeInfo113,rfl⟩⟩
instance hu113 : HasUnd Tryz.prog 113 := ⟨_,Tryz.runUnderlying113⟩
instance ty114 : Ty Tryz.prog 114 false 1 [.nilFunc] 8 := ⟨⟨Tryz.t114,_,by kernel_rfl,rfl,rfl,rfl,rfl⟩,Tryz.isAgg114,Tryz.sizeOf114,⟨_,Tryz.zeroValue114,rfl⟩,⟨_,Tryz.typeInfo114,rfl⟩⟩
instance hu114 : HasUnd Tryz.prog 114 := ⟨_,Tryz.runUnderlying114⟩
instance ty115 : Ty Tryz.prog 115 false 1 [.nilFunc] 8 := ⟨⟨Tryz.t115,_,by kernel_rfl,rfl,rfl,rfl,rfl⟩,Tryz.isAgg115,Tryz.sizeOf115,⟨_,Tryz.zeroValue115,rfl⟩,⟨_,Tryz.typeInfo115,rfl⟩⟩
instance hu115 : HasUnd Tryz.prog 115 := ⟨_,Tryz.runUnderlying115⟩
instance ty116 : Ty Tryz.prog 116 false 1 [.nilFunc] 8 := ⟨⟨Tryz.t116,_,by kernel_rfl,rfl,rfl,rfl,rfl⟩,Tryz.isAgg116,Tryz.sizeOf116,⟨_,Tryz.zeroValue116,rfl⟩,⟨_,Tryz.typeInfo116,rfl⟩⟩
instance hu116 : HasUnd Tryz.prog 116 := ⟨_,Tryz.runUnderlying116⟩
instance ty117 : Ty Tryz.prog 117 false 1 [.nilFunc] 8 := ⟨⟨Tryz.t117,_,by kernel_rfl,rfl,rfl,rfl,rfl⟩,Tryz.isAgg117,Tryz.sizeOf117,⟨_,Tryz.zeroValue117,rfl⟩,⟨_,Tryz.typeInfo117,rfl⟩⟩
instance hu117 : HasUnd Tryz.prog 117 := ⟨_,Tryz.runUnderlying117⟩
instance ty118 : Ty Tryz.prog 118 false 1 [.nilFunc] 8 := ⟨⟨Tryz.t118,_,by kernel_rfl,rfl,rfl,rfl,rfl⟩,Tryz.isAgg118,Tryz.sizeOf118,⟨_,Tryz.zeroValue118,rfl⟩,⟨_,Tryz.typeInfo118,rfl⟩⟩
instance hu118 : HasUnd Tryz.prog 118 := ⟨_,Tryz.runUnderlying118⟩
instance ty119 : Ty Tryz.prog 119 false 1 [.nilFunc] 8 := ⟨⟨Tryz.t119,_,by kernel_rfl,rfl,rfl,rfl,rfl⟩,Tryz.isAgg119,Tryz.sizeOf119,⟨_,Tryz.zeroValue119,rfl⟩,⟨_,Tryz.typeInfo119,rfl⟩⟩
instance hu119 : HasUnd Tryz.prog 119 := ⟨_,Tryz.runUnderlying119⟩
instance ty120 : Ty Tryz.prog 120 true 9 [.int .u64 0,.int .u64 0,.int .u64 0,.int .u64 0,.int .i64 0,.slice none 0 0,.slice none 0 0,.slice none 0 0,.slice none 0 0] 136 := ⟨⟨Tryz.t120,_,by kernel_rfl,rfl,rfl,rfl,rfl⟩,Tryz.isAgg120,Tryz.sizeOf120,⟨_,Tryz.zeroValue120,rfl⟩,⟨_,Tryz.typeInfo120,rfl⟩⟩
instance hu120 : HasUnd Tryz.prog 120 := ⟨_,Tryz.runUnderlying120⟩
instance ss120 : StTy Tryz.prog 120 [(0,1,false),(1,1,false),(2,1,false),(3,1,false),(4,1,false),(5,1,false),(6,1,false),(7,1,false),(8,1,false)] := ⟨_,Tryz.runUnderlying120,rfl,fun i off sz ag h => match i,h with
 | 0,h => by simp only [List.getElem?_cons_zero,List.getElem?_cons_succ,Option.some.injEq,Prod.mk.injEq] at h;obtain ⟨rfl,rfl,rfl⟩ := h;exact ⟨_,rfl,rfl,Tryz.sizeOf29,Tryz.isAgg29⟩
 | 1,h => by simp only [List.getElem?_cons_zero,List.getElem?_cons_succ,Option.some.injEq,Prod.mk.injEq] at h;obtain ⟨rfl,rfl,rfl⟩ := h;exact ⟨_,rfl,rfl,Tryz.sizeOf29,Tryz.isAgg29⟩
 | 2,h => by simp only [List.getElem?_cons_zero,List.getElem?_cons_succ,Option.some.injEq,Prod.mk.injEq] at h;obtain ⟨rfl,rfl,rfl⟩ := h;exact ⟨_,rfl,rfl,Tryz.sizeOf29,Tryz.isAgg29⟩
 | 3,h => by simp only [List.getElem?_cons_zero,List.getElem?_cons_succ,Option.some.injEq,Prod.mk.injEq] at h;obtain ⟨rfl,rfl,rfl⟩ := h;exact ⟨_,rfl,rfl,Tryz.sizeOf29,Tryz.isAgg29⟩
 | 4,h => by simp only [List.getElem?_cons_zero,List.getElem?_cons_succ,Option.some.injEq,Prod.mk.injEq] at h;obtain ⟨rfl,rfl,rfl⟩ := h;exact ⟨_,rfl,rfl,Tryz.sizeOf3,Tryz.isAgg3⟩
 | 5,h => by simp only [List.getElem?_cons_zero,List.getElem?_cons_succ,Option.some.injEq,Prod.mk.injEq] at h;obtain ⟨rfl,rfl,rfl⟩ := h;exact ⟨_,rfl,rfl,Tryz.sizeOf34,Tryz.isAgg34⟩
 | 6,h => by simp only [List.getElem?_cons_zero,List.getElem?_cons_succ,Option.some.injEq,Prod.mk.injEq] at h;obtain ⟨rfl,rfl,rfl⟩ := h;exact ⟨_,rfl,rfl,Tryz.sizeOf34,Tryz.isAgg34⟩
 | 7,h => by simp only [List.getElem?_cons_zero,List.getElem?_cons_succ,Option.some.injEq,Prod.mk.injEq] at h;obtain ⟨rfl,rfl,rfl⟩ := h;exact ⟨_,rfl,rfl,Tryz.sizeOf34,Tryz.isAgg34⟩
 | 8,h => by simp only [List.getElem?_cons_zero,List.getElem?_cons_succ,Option.some.injEq,Prod.mk.injEq] at h;obtain ⟨rfl,rfl,rfl⟩ := h;exact ⟨_,rfl,rfl,Tryz.sizeOf35,Tryz.isAgg35⟩
 | (i + 9),h => by simp at h⟩
instance ty121 : Ty Tryz.prog 121 true 9 [.int .u64 0,.int .u64 0,.int .u64 0,.int .u64 0,.int .i64 0,.slice none 0 0,.slice none 0 0,.slice none 0 0,.slice none 0 0] 136 := ⟨⟨Tryz.t121,_,by kernel_rfl,rfl,rfl,rfl,rfl⟩,Tryz.isAgg121,Tryz.sizeOf121,⟨_,Tryz.zeroValue121,rfl⟩,⟨_,Tryz.typeInfo121,rfl⟩⟩
instance hu121 : HasUnd Tryz.prog 121 := ⟨_,Tryz.runUnderlying121⟩
instance ss121 : StTy Tryz.prog 121 [(0,1,false),(1,1,false),(2,1,false),(3,1,false),(4,1,false),(5,1,false),(6,1,false),(7,1,false),(8,1,false)] := ⟨_,Tryz.runUnderlying121,rfl,fun i off sz ag h => match i,h with
 | 0,h => by simp only [List.getElem?_cons_zero,List.getElem?_cons_succ,Option.some.injEq,Prod.mk.injEq] at h;obtain ⟨rfl,rfl,rfl⟩ := h;exact ⟨_,rfl,rfl,Tryz.sizeOf29,Tryz.isAgg29⟩
 | 1,h => by simp only [List.getElem?_cons_zero,List.getElem?_cons_succ,Option.some.injEq,Prod.mk.injEq] at h;obtain ⟨rfl,rfl,rfl⟩ := h;exact ⟨_,rfl,rfl,Tryz.sizeOf29,Tryz.isAgg29⟩
 | 2,h => by simp only [List.getElem?_cons_zero,List.getElem?_cons_succ,Option.some.injEq,Prod.mk.injEq] at h;obtain ⟨rfl,rfl,rfl⟩ := h;exact ⟨_,rfl,rfl,Tryz.sizeOf29,Tryz.isAgg29⟩
 | 3,h => by simp only [List.getElem?_cons_zero,List.getElem?_cons_succ,Option.some.injEq,Prod.mk.injEq] at h;obtain ⟨rfl,rfl,rfl⟩ := h;exact ⟨_,rfl,rfl,Tryz.sizeOf29,Tryz.isAgg29⟩
 | 4,h => by simp only [List.getElem?_cons_zero,List.getElem?_cons_succ,Option.some.injEq,Prod.mk.injEq] at h;obtain ⟨rfl,rfl,rfl⟩ := h;exact ⟨_,rfl,rfl,Tryz.sizeOf3,Tryz.isAgg3⟩
 | 5,h => by simp only [List.getElem?_cons_zero,List.getElem?_cons_succ,Option.some.injEq,Prod.mk.injEq] at h;obtain ⟨rfl,rfl,rfl⟩ := h;exact ⟨_,rfl,rfl,Tryz.sizeOf34,Tryz.isAgg34⟩
 | 6,h => by simp only [List.getElem?_cons_zero,List.getElem?_cons_succ,Option.some.injEq,Prod.mk.injEq] at h;obtain ⟨rfl,rfl,rfl⟩ := h;exact ⟨_,rfl,rfl,Tryz.sizeOf34,Tryz.isAgg34⟩
 | 7,h => by simp only [List.getElem?_cons_zero,List.getElem?_cons_succ,Option.some.injEq,Prod.mk.injEq] at h;obtain ⟨rfl,rfl,rfl⟩ := h;exact ⟨_,rfl,rfl,Tryz.sizeOf34,Tryz.isAgg34⟩
 | 8,h => by simp only [List.getElem?_cons_zero,List.getElem?_cons_succ,Option.some.injEq,Prod.mk.injEq] at h;obtain ⟨rfl,rfl,rfl⟩ := h;exact ⟨_,rfl,rfl,Tryz.sizeOf35,Tryz.isAgg35⟩
 | (i + 9),h => by simp at h⟩
instance ty122 : Ty Tryz.prog 122 false 1 [.nilFunc] 8 := ⟨⟨Tryz.t122,_,by kernel_rfl,rfl,rfl,rfl,rfl⟩,Tryz.isAgg122,Tryz.sizeOf122,⟨_,Tryz.zeroValue122,rfl⟩,⟨_,Tryz.typeInfo122,rfl⟩⟩
instance hu122 : HasUnd Tryz.prog 122 := ⟨_,Tryz.runUnderlying122⟩
instance ty123 : Ty Tryz.prog 123 false 1 [.pointer none] 8 := ⟨⟨Tryz.t123,_,by kernel_rfl,rfl,rfl,rfl,rfl⟩,Tryz.isAgg123,Tryz.sizeOf123,⟨_,Tryz.zeroValue123,rfl⟩,⟨_,Tryz.typeInfo123,rfl⟩⟩
instance hu123 : HasUnd Tryz.prog 123 := ⟨_,Tryz.runUnderlying123⟩
instance pt123 : PtrTy Tryz.prog 123 125 := ⟨Tryz.runUnderlying123,Tryz.underlying123⟩
instance ty124 : Ty Tryz.prog 124 true 1 [.slice none 0 0] 24 := ⟨⟨Tryz.t124,_,by kernel_rfl,rfl,rfl,rfl,rfl⟩,Tryz.isAgg124,Tryz.sizeOf124,⟨_,Tryz.zeroValue124,rfl⟩,⟨_,Tryz.typeInfo124,rfl⟩⟩
instance hu124 : HasUnd Tryz.prog 124 := ⟨_,Tryz.runUnderlying124⟩
instance ss124 : StTy Tryz.prog 124 [(0,1,false)] := ⟨_,Tryz.runUnderlying124,rfl,fun i off sz ag h => match i,h with
 | 0,h => by simp only [List.getElem?_cons_zero,List.getElem?_cons_succ,Option.some.injEq,Prod.mk.injEq] at h;obtain ⟨rfl,rfl,rfl⟩ := h;exact ⟨_,rfl,rfl,Tryz.sizeOf67,Tryz.isAgg67⟩
 | (i + 1),h => by simp at h⟩
instance ty125 : Ty Tryz.prog 125 true 1 [.slice none 0 0] 24 := ⟨⟨Tryz.t125,_,by kernel_rfl,rfl,rfl,rfl,rfl⟩,Tryz.isAgg125,Tryz.sizeOf125,⟨_,Tryz.zeroValue125,rfl⟩,⟨_,Tryz.typeInfo125,rfl⟩⟩
instance hu125 : HasUnd Tryz.prog 125 := ⟨_,Tryz.runUnderlying125⟩
instance ss125 : StTy Tryz.prog 125 [(0,1,false)] := ⟨_,Tryz.runUnderlying125,rfl,fun i off sz ag h => match i,h with
 | 0,h => by simp only [List.getElem?_cons_zero,List.getElem?_cons_succ,Option.some.injEq,Prod.mk.injEq] at h;obtain ⟨rfl,rfl,rfl⟩ := h;exact ⟨_,rfl,rfl,Tryz.sizeOf67,Tryz.isAgg67⟩
 | (i + 1),h => by simp at h⟩
instance ty126 : Ty Tryz.prog 126 false 1 [.nilFunc] 8 := ⟨⟨Tryz.t126,_,by kernel_rfl,rfl,rfl,rfl,rfl⟩,Tryz.isAgg126,Tryz.sizeOf126,⟨_,Tryz.zeroValue126,rfl⟩,⟨_,Tryz.typeInfo126,rfl⟩⟩
instance hu126 : HasUnd Tryz.prog 126 := ⟨_,Tryz.runUnderlying126⟩
instance ty127 : Ty Tryz.prog 127 false 1 [.nilFunc] 8 := ⟨⟨Tryz.t127,_,by kernel_rfl,rfl,rfl,rfl,rfl⟩,Tryz.isAgg127,Tryz.sizeOf127,⟨_,Tryz.zeroValue127,rfl⟩,⟨_,Tryz.typeInfo127,rfl⟩⟩
instance hu127 : HasUnd Tryz.prog 127 := ⟨_,Tryz.runUnderlying127⟩
instance ty128 : Ty Tryz.prog 128 false 1 [.nilFunc] 8 := ⟨⟨Tryz.t128,_,by kernel_rfl,rfl,rfl,rfl,rfl⟩,Tryz.isAgg128,Tryz.sizeOf128,⟨_,Tryz.zeroValue128,rfl⟩,⟨_,Tryz.typeInfo128,rfl⟩⟩
instance hu128 : HasUnd Tryz.prog 128 := ⟨_,Tryz.runUnderlying128⟩
instance ty129 : Ty Tryz.prog 129 false 1 [.nilFunc] 8 := ⟨⟨Tryz.t129,_,by kernel_rfl,rfl,rfl,rfl,rfl⟩,Tryz.isAgg129,Tryz.sizeOf129,⟨_,Tryz.zeroValue129,rfl⟩,⟨_,Tryz.typeInfo129,rfl⟩⟩
instance hu129 : HasUnd Tryz.prog 129 := ⟨_,Tryz.runUnderlying129⟩
instance ty130 : Ty Tryz.prog 130 false 1 [.nilFunc] 8 := ⟨⟨Tryz.t130,_,by kernel_rfl,rfl,rfl,rfl,rfl⟩,Tryz.isAgg130,Tryz.sizeOf130,⟨_,Tryz.zeroValue130,rfl⟩,⟨_,Tryz.typeInfo130,rfl⟩⟩
instance hu130 : HasUnd Tryz.prog 130 := ⟨_,Tryz.runUnderlying130⟩
instance ty131 : Ty Tryz.prog 131 false 1 [.slice none 0 0] 24 := ⟨⟨Tryz.t131,_,by kernel_rfl,rfl,rfl,rfl,rfl⟩,Tryz.isAgg131,Tryz.sizeOf131,⟨_,Tryz.zeroValue131,rfl⟩,⟨_,Tryz.typeInfo131,rfl⟩⟩
instance hu131 : HasUnd Tryz.prog 131 := ⟨_,Tryz.runUnderlying131⟩
instance sl131 : SlTy Tryz.prog 131 96 := ⟨Tryz.runUnderlying131,Tryz.underlying131⟩
instance ty132 : Ty Tryz.prog 132 false 1 [.pointer none] 8 := ⟨⟨Tryz.t132,_,by kernel_rfl,rfl,rfl,rfl,rfl⟩,Tryz.isAgg132,Tryz.sizeOf132,⟨_,Tryz.zeroValue132,rfl⟩,⟨_,Tryz.typeInfo132,rfl⟩⟩
instance hu132 : HasUnd Tryz.prog 132 := ⟨_,Tryz.runUnderlying132⟩
instance pt132 : PtrTy Tryz.prog 132 182 := ⟨Tryz.runUnderlying132,Tryz.underlying132⟩
instance ty133 : Ty Tryz.prog 133 false 1 [.nilFunc] 8 := ⟨⟨Tryz.t133,_,by kernel_rfl,rfl,rfl,rfl,rfl⟩,Tryz.isAgg133,Tryz.sizeOf133,⟨_,Tryz.zeroValue133,rfl⟩,⟨_,Tryz.typeInfo133,rfl⟩⟩
instance hu133 : HasUnd Tryz.prog 133 := ⟨_,Tryz.runUnderlying133⟩
instance ty134 : Ty Tryz.prog 134 false 1 [.nilFunc] 8 := ⟨⟨Tryz.t134,_,by kernel_rfl,rfl,rfl,rfl,rfl⟩,Tryz.isAgg134,Tryz.sizeOf134,⟨_,Tryz.zeroValue134,rfl⟩,⟨_,Tryz.typeInfo134,rfl⟩⟩
instance hu134 : HasUnd Tryz.prog 134 := ⟨_,Tryz.runUnderlying134⟩
instance ty135 : Ty Tryz.prog 135 false 1 [.nilFunc] 8 := ⟨⟨Tryz.t135,_,by kernel_rfl,rfl,rfl,rfl,rfl⟩,Tryz.isAgg135,Tryz.sizeOf135,⟨_,Tryz.zeroValue135,rfl⟩,⟨_,Tryz.typeInfo135,rfl⟩⟩
instance hu135 : HasUnd Tryz.prog 135 := ⟨_,Tryz.runUnderlying135⟩
instance ty136 : Ty Tryz.prog 136 false 1 [.nilFunc] 8 := ⟨⟨Tryz.t136,_,by kernel_rfl,rfl,rfl,rfl,rfl⟩,Tryz.isAgg136,Tryz.sizeOf136,⟨_,Tryz.zeroValue136,rfl⟩,⟨_,Tryz.typeInfo136,rfl⟩⟩
instance hu136 : HasUnd Tryz.prog 136 := ⟨_,Tryz.runUnderlying136⟩
instance ty137 : Ty Tryz.prog 137 false 1 [.pointer none] 8 := ⟨⟨Tryz.t137,_,by kernel_rfl,rfl,rfl,rfl,rfl⟩,Tryz.isAgg137,Tryz.sizeOf137,⟨_,Tryz.zeroValue137,rfl⟩,⟨_,Tryz.typeInfo137,rfl⟩⟩
instance hu137 : HasUnd Tryz.prog 137 := ⟨_,Tryz.runUnderlying137⟩
instance pt137 : PtrTy Tryz.prog 137 139 := ⟨Tryz.runUnderlying137,Tryz.underlying137⟩
instance ty138 : Ty Tryz.prog 138 true 2 [.slice none 0 0,.bool false] 32 := ⟨⟨Tryz.t138,_,by kernel_rfl,rfl,rfl,rfl,rfl⟩,Tryz.isAgg138,Tryz.sizeOf138,⟨_,Tryz.zeroValue138,rfl⟩,⟨_,Tryz.typeInfo138,rfl⟩⟩
instance hu138 : HasUnd Tryz.prog 138 := ⟨_,Tryz.runUnderlying138⟩
instance ss138 : StTy Tryz.prog 138 [(0,1,false),(1,1,false)] := ⟨_,Tryz.runUnderlying138,rfl,fun i off sz ag h => match i,h with
 | 0,h => by simp only [List.getElem?_cons_zero,List.getElem?_cons_succ,Option.some.injEq,Prod.mk.injEq] at h;obtain ⟨rfl,rfl,rfl⟩ := h;exact ⟨_,rfl,rfl,Tryz.sizeOf67,Tryz.isAgg67⟩
 | 1,h => by simp only [List.getElem?_cons_zero,List.getElem?_cons_succ,Option.some.injEq,Prod.mk.injEq] at h;obtain ⟨rfl,rfl,rfl⟩ := h;exact ⟨_,rfl,rfl,Tryz.sizeOf4,Tryz.isAgg4⟩
 | (i + 2),h => by simp at h⟩
instance ty139 : Ty Tryz.prog 139 true 2 [.slice none 0 0,.bool false] 32 := ⟨⟨Tryz.t139,_,by kernel_rfl,rfl,rfl,rfl,rfl⟩,Tryz.isAgg139,Tryz.sizeOf139,⟨_,Tryz.zeroValue139,rfl⟩,⟨_,Tryz.typeInfo139,rfl⟩⟩
instance hu139 : HasUnd Tryz.prog 139 := ⟨_,Tryz.runUnderlying139⟩
instance ss139 : StTy Tryz.prog 139 [(0,1,false),(1,1,false)] := ⟨_,Tryz.runUnderlying139,rfl,fun i off sz ag h => match i,h with
 | 0,h => by simp only [List.getElem?_cons_zero,List.getElem?_cons_succ,Option.some.injEq,Prod.mk.injEq] at h;obtain ⟨rfl,rfl,rfl⟩ := h;exact ⟨_,rfl,rfl,Tryz.sizeOf67,Tryz.isAgg67⟩
 | 1,h => by simp only [List.getElem?_cons_zero,List.getElem?_cons_succ,Option.some.injEq,Prod.mk.injEq] at h;obtain ⟨rfl,rfl,rfl⟩ := h;exact ⟨_,rfl,rfl,Tryz.sizeOf4,Tryz.isAgg4⟩
 | (i + 2),h => by simp at h⟩
instance ty140 : Ty Tryz.prog 140 false 1 [.nilFunc] 8 := ⟨⟨Tryz.t140,_,by kernel_rfl,rfl,rfl,rfl,rfl⟩,Tryz.isAgg140,Tryz.sizeOf140,⟨_,Tryz.zeroValue140,rfl⟩,⟨_,Tryz.typeInfo140,rfl⟩⟩
instance hu140 : HasUnd Tryz.prog 140 := ⟨_,Tryz.runUnderlying140⟩
instance ty141 : Ty Tryz.prog 141 true 2 [.int .u64 0,.int .u64 0] 16 := ⟨⟨Tryz.t141,_,by kernel_rfl,rfl,rfl,rfl,rfl⟩,Tryz.isAgg141,Tryz.sizeOf141,⟨_,Tryz.zeroValue141,rfl⟩,⟨_,Tryz.typeInfo141,rfl⟩⟩
instance hu141 : HasUnd Tryz.prog 141 := ⟨_,Tryz.runUnderlying141⟩
instance ss141 : StTy Tryz.prog 141 [(0,1,false),(1,1,false)] := ⟨_,Tryz.runUnderlying141,rfl,fun i off sz ag h => match i,h with
 | 0,h => by simp only [List.getElem?_cons_zero,List.getElem?_cons_succ,Option.some.injEq,Prod.mk.injEq] at h;obtain ⟨rfl,rfl,rfl⟩ := h;exact ⟨_,rfl,rfl,Tryz.sizeOf29,Tryz.isAgg29⟩
 | 1,h => by simp only [List.getElem?_cons_zero,List.getElem?_cons_succ,Option.some.injEq,Prod.mk.injEq] at h;obtain ⟨rfl,rfl,rfl⟩ := h;exact ⟨_,rfl,rfl,Tryz.sizeOf29,Tryz.isAgg29⟩
 | (i + 2),h => by simp at h⟩
instance ty142 : Ty Tryz.prog 142 true 2 [.int .u64 0,.int .u64 0] 16 := ⟨⟨Tryz.t142,_,by kernel_rfl,rfl,rfl,rfl,rfl⟩,Tryz.isAgg142,Tryz.sizeOf142,⟨_,Tryz.zeroValue142,rfl⟩,⟨_,Tryz.typeInfo142,rfl⟩⟩
instance hu142 : HasUnd Tryz.prog 142 := ⟨_,Tryz.runUnderlying142⟩
instance ss142 : StTy Tryz.prog 142 [(0,1,false),(1,1,false)] := ⟨_,Tryz.runUnderlying142,rfl,fun i off sz ag h => match i,h with
 | 0,h => by simp only [List.getElem?_cons_zero,List.getElem?_cons_succ,Option.some.injEq,Prod.mk.injEq] at h;obtain ⟨rfl,rfl,rfl⟩ := h;exact ⟨_,rfl,rfl,Tryz.sizeOf29,Tryz.isAgg29⟩
 | 1,h => by simp only [List.getElem?_cons_zero,List.getElem?_cons_succ,Option.some.injEq,Prod.mk.injEq] at h;obtain ⟨rfl,rfl,rfl⟩ := h;exact ⟨_,rfl,rfl,Tryz.sizeOf29,Tryz.isAgg29⟩
 | (i + 2),h => by simp at h⟩
instance ty143 : Ty Tryz.prog 143 false 1 [.int .u64 0] 8 := ⟨⟨Tryz.t143,_,by kernel_rfl,rfl,rfl,rfl,rfl⟩,Tryz.isAgg143,Tryz.sizeOf143,⟨_,Tryz.zeroValue143,rfl⟩,⟨_,Tryz.typeInfo143,rfl⟩⟩
instance hu143 : HasUnd Tryz.prog 143 := ⟨_,Tryz.runUnderlying143⟩
instance it143 : IntTy Tryz.prog 143 .u64 := ⟨Tryz.runUnderlying143,Tryz.underlying143⟩
instance ty144 : Ty Tryz.prog 144 false 1 [.nilFunc] 8 := ⟨⟨Tryz.t144,_,by kernel_rfl,rfl,rfl,rfl,rfl⟩,Tryz.isAgg144,Tryz.sizeOf144,⟨_,Tryz.zeroValue144,rfl⟩,⟨_,Tryz.typeInfo144,rfl⟩⟩
instance hu144 : HasUnd Tryz.prog 144 := ⟨_,Tryz.runUnderlying144⟩
instance ty145 : Ty Tryz.prog 145 false 1 [.nilFunc] 8 := ⟨⟨Tryz.t145,_,by kernel_rfl,rfl,rfl,rfl,rfl⟩,Tryz.isAgg145,Tryz.sizeOf145,⟨_,Tryz.zeroValue145,rfl⟩,⟨_,Tryz.typeInfo145,rfl⟩⟩
instance hu145 : HasUnd Tryz.prog 145 := ⟨_,Tryz.runUnderlying145⟩
instance ty146 : Ty Tryz.prog 146 false 1 [.nilFunc] 8 := ⟨⟨Tryz.t146,_,by kernel_rfl,rfl,rfl,rfl,rfl⟩,Tryz.isAgg146,Tryz.sizeOf146,⟨_,Tryz.zeroValue146,rfl⟩,⟨_,Tryz.typeInfo146,rfl⟩⟩
instance hu146 : HasUnd Tryz.prog 146 := ⟨_,Tryz.runUnderlying146⟩
instance ty147 : Ty Tryz.prog 147 false 1 [.nilFunc] 8 := ⟨⟨Tryz.t147,_,by kernel_rfl,rfl,rfl,rfl,rfl⟩,Tryz.isAgg147,Tryz.sizeOf147,⟨_,Tryz.zeroValue147,rfl⟩,⟨_,Tryz.typeInfo147,rfl⟩⟩
instance hu147 : HasUnd Tryz.prog 147 := ⟨_,Tryz.runUnderlying147⟩
instance ty148 : Ty Tryz.prog 148 false 1 [.nilFunc] 8 := ⟨⟨Tryz.t148,_,by kernel_rfl,rfl,rfl,rfl,rfl⟩,Tryz.isAgg148,Tryz.sizeOf148,⟨_,Tryz.zeroValue148,rfl⟩,⟨_,Tryz.typeInfo148,rfl⟩⟩
instance hu148 : HasUnd Tryz.prog 148 := ⟨_,Tryz.runUnderlying148⟩
instance ty149 : Ty Tryz.prog 149 false 1 [.nilFunc] 8 := ⟨⟨Tryz.t149,_,by kernel_rfl,rfl,rfl,rfl,rfl⟩,Tryz.isAgg149,Tryz.sizeOf149,⟨_,Tryz.zeroValue149,rfl⟩,⟨_,Tryz.typeInfo149,rfl⟩⟩
instance hu149 : HasUnd Tryz.prog 149 := ⟨_,Tryz.runUnderlying149⟩
instance ty150 : Ty Tryz.prog 150 false 1 [.nilFunc] 8 := ⟨⟨Tryz.t150,_,by kernel_rfl,rfl,rfl,rfl,rfl⟩,Tryz.isAgg150,Tryz.sizeOf150,⟨_,Tryz.zeroValue150,rfl⟩,⟨_,Tryz.typeInfo150,rfl⟩⟩
instance hu150 : HasUnd Tryz.prog 150 := ⟨_,Tryz.runUnderlying150⟩
instance ty151 : Ty Tryz.prog 151 false 1 [.nilFunc] 8 := ⟨⟨Tryz.t151,_,by kernel_rfl,rfl,rfl,rfl,rfl⟩,Tryz.isAgg151,Tryz.sizeOf151,⟨_,Tryz.zeroValue151,rfl⟩,⟨_,Tryz.typeInfo151,rfl⟩⟩
instance hu151 : HasUnd Tryz.prog 151 := ⟨_,Tryz.runUnderlying151⟩
instance ty152 : Ty Tryz.prog 152 false 1 [.nilFunc] 8 := ⟨⟨Tryz.t152,_,by kernel_rfl,rfl,rfl,rfl,rfl⟩,Tryz.isAgg152,Tryz.sizeOf152,⟨_,Tryz.zeroValue152,rfl⟩,⟨_,Tryz.typeInfo152,rfl⟩⟩
instance hu152 : HasUnd Tryz.prog 152 := ⟨_,Tryz.runUnderlying152⟩
instance ty153 : Ty Tryz.prog 153 false 1 [.nilFunc] 8 := ⟨⟨Tryz.t153,_,by kernel_rfl,rfl,rfl,rfl,rfl⟩,Tryz.isAgg153,Tryz.sizeOf153,⟨_,Tryz.zeroValue153,rfl⟩,⟨_,Tryz.typeInfo153,rfl⟩⟩
instance hu153 : HasUnd Tryz.prog 153 := ⟨_,Tryz.runUnderlying153⟩
instance ty154 : Ty Tryz.prog 154 true 17 [.int .i64 0,.int .u8 0,.int .u64 0,.int .u64 0,.int .u64 0,.int .u64 0,.int .u64 0,.int .u64 0,.int .u64 0,.int .i64 0,.int .i64 0,.int .i64 0,.int .i64 0,.slice none 0 0,.slice none 0 0,.slice none 0 0,.slice none 0 0] 200 := ⟨⟨Tryz.t154,_,by kernel_rfl,rfl,rfl,rfl,rfl⟩,Tryz.isAgg154,Tryz.sizeOf154,⟨_,Tryz.zeroValue154,rfl⟩,⟨_,Tryz.typeInfo154,rfl⟩⟩
instance hu154 : HasUnd Tryz.prog 154 := ⟨_,Tryz.runUnderlying154⟩
instance ss154 : StTy Tryz.prog 154 [(0,1,false),(1,16,true)] := ⟨_,Tryz.runUnderlying154,rfl,fun i off sz ag h => match i,h with
 | 0,h => by simp only [List.getElem?_cons_zero,List.getElem?_cons_succ,Option.some.injEq,Prod.mk.injEq] at h;obtain ⟨rfl,rfl,rfl⟩ := h;exact ⟨_,rfl,rfl,Tryz.sizeOf3,Tryz.isAgg3⟩
 | 1,h => by simp only [List.getElem?_cons_zero,List.getElem?_cons_succ,Option.some.injEq,Prod.mk.injEq] at h;obtain ⟨rfl,rfl,rfl⟩ := h;exact ⟨_,rfl,rfl,Tryz.sizeOf39,Tryz.isAgg39⟩
 | (i + 2),h => by simp at h⟩
instance ty155 : Ty Tryz.prog 155 true 17 [.int .i64 0,.int .u8 0,.int .u64 0,.int .u64 0,.int .u64 0,.int .u64 0,.int .u64 0,.int .u64 0,.int .u64 0,.int .i64 0,.int .i64 0,.int .i64 0,.int .i64 0,.slice none 0 0,.slice none 0 0,.slice none 0 0,.slice none 0 0] 200 := ⟨⟨Tryz.t155,_,by kernel_rfl,rfl,rfl,rfl,rfl⟩,Tryz.isAgg155,Tryz.sizeOf155,⟨_,Tryz.zeroValue155,rfl⟩,⟨_,Tryz.typeInfo155,rfl⟩⟩
instance hu155 : HasUnd Tryz.prog 155 := ⟨_,Tryz.runUnderlying155⟩
instance ss155 : StTy Tryz.prog 155 [(0,1,false),(1,16,true)] := ⟨_,Tryz.runUnderlying155,rfl,fun i off sz ag h => match i,h with
 | 0,h => by simp only [List.getElem?_cons_zero,List.getElem?_cons_succ,Option.some.injEq,Prod.mk.injEq] at h;obtain ⟨rfl,rfl,rfl⟩ := h;exact ⟨_,rfl,rfl,Tryz.sizeOf3,Tryz.isAgg3⟩
 | 1,h => by simp only [List.getElem?_cons_zero,List.getElem?_cons_succ,Option.some.injEq,Prod.mk.injEq] at h;obtain ⟨rfl,rfl,rfl⟩ := h;exact ⟨_,rfl,rfl,Tryz.sizeOf39,Tryz.isAgg39⟩
 | (i + 2),h => by simp at h⟩
instance ty156 : Ty Tryz.prog 156 false 1 [.nilFunc] 8 := ⟨⟨Tryz.t156,_,by kernel_rfl,rfl,rfl,rfl,rfl⟩,Tryz.isAgg156,Tryz.sizeOf156,⟨_,Tryz.zeroValue156,rfl⟩,⟨_,Tryz.typeInfo156,rfl⟩⟩
instance hu156 : HasUnd Tryz.prog 156 := ⟨_,Tryz.runUnderlying156⟩
instance ty157 : Ty Tryz.prog 157 false 1 [.nilFunc] 8 := ⟨⟨Tryz.t157,_,by kernel_rfl,rfl,rfl,rfl,rfl⟩,Tryz.isAgg157,Tryz.sizeOf157,⟨_,Tryz.zeroValue157,rfl⟩,⟨_,Tryz.typeInfo157,rfl⟩⟩
instance hu157 : HasUnd Tryz.prog 157 := ⟨_,Tryz.runUnderlying157⟩
instance ty158 : Ty Tryz.prog 158 false 1 [.nilFunc] 8 := ⟨⟨Tryz.t158,_,by kernel_rfl,rfl,rfl,rfl,rfl⟩,Tryz.isAgg158,Tryz.sizeOf158,⟨_,Tryz.zeroValue158,rfl⟩,⟨_,Tryz.typeInfo158,rfl⟩⟩
instance hu158 : HasUnd Tryz.prog 158 := ⟨_,Tryz.runUnderlying158⟩
instance ty159 : Ty Tryz.prog 159 false 1 [.nilFunc] 8 := ⟨⟨Tryz.t159,_,by kernel_rfl,rfl,rfl,rfl,rfl⟩,Tryz.isAgg159,Tryz.sizeOf159,⟨_,Tryz.zeroValue159,rfl⟩,⟨_,Tryz.typeInfo159,rfl⟩⟩
instance hu159 : HasUnd Tryz.prog 159 := ⟨_,Tryz.runUnderlying159⟩
instance ty160 : Ty Tryz.prog 160 false 1 [.nilFunc] 8 := ⟨⟨Tryz.t160,_,by kernel_rfl,rfl,rfl,rfl,rfl⟩,Tryz.isAgg160,Tryz.sizeOf160,⟨_,Tryz.zeroValue160,rfl⟩,⟨_,Tryz.typeInfo160,rfl⟩⟩
instance hu160 : HasUnd Tryz.prog 160 := ⟨_,Tryz.runUnderlying160⟩
instance ty161 : Ty Tryz.prog 161 false 1 [.nilFunc] 8 := ⟨⟨Tryz.t161,_,by kernel_rfl,rfl,rfl,rfl,rfl⟩,Tryz.isAgg161,Tryz.sizeOf161,⟨_,Tryz.zeroValue161,rfl⟩,⟨_,Tryz.typeInfo161,rfl⟩⟩
instance hu161 : HasUnd Tryz.prog 161 := ⟨_,Tryz.runUnderlying161⟩
instance ty162 : Ty Tryz.prog 162 true 2 [.string ⟨#[]⟩,.int .i64 0] 24 := ⟨⟨Tryz.t162,_,by kernel_rfl,rfl,rfl,rfl,rfl⟩,Tryz.isAgg162,Tryz.sizeOf162,⟨_,Tryz.zeroValue162,rfl⟩,⟨_,Tryz.typeInfo162,rfl⟩⟩
instance hu162 : HasUnd Tryz.prog 162 := ⟨_,Tryz.runUnderlying162⟩
instance ss162 : StTy Tryz.prog 162 [(0,1,false),(1,1,false)] := ⟨_,Tryz.runUnderlying162,rfl,fun i off sz ag h => match i,h with
 | 0,h => by simp only [List.getElem?_cons_zero,List.getElem?_cons_succ,Option.some.injEq,Prod.mk.injEq] at h;obtain ⟨rfl,rfl,rfl⟩ := h;exact ⟨_,rfl,rfl,Tryz.sizeOf9,Tryz.isAgg9⟩
 | 1,h => by simp only [List.getElem?_cons_zero,List.getElem?_cons_succ,Option.some.injEq,Prod.mk.injEq] at h;obtain ⟨rfl,rfl,rfl⟩ := h;exact ⟨_,rfl,rfl,Tryz.sizeOf3,Tryz.isAgg3⟩
 | (i + 2),h => by simp at h⟩
instance ty163 : Ty Tryz.prog 163 true 2 [.string ⟨#[]⟩,.int .i64 0] 24 := ⟨⟨Tryz.t163,_,by kernel_rfl,rfl,rfl,rfl,rfl⟩,Tryz.isAgg163,Tryz.sizeOf163,⟨_,Tryz.zeroValue163,rfl⟩,⟨_,Tryz.typeInfo163,rfl⟩⟩
instance hu163 : HasUnd Tryz.prog 163 := ⟨_,Tryz.runUnderlying163⟩
instance ss163 : StTy Tryz.prog 163 [(0,1,false),(1,1,false)] := ⟨_,Tryz.runUnderlying163,rfl,fun i off sz ag h => match i,h with
 | 0,h => by simp only [List.getElem?_cons_zero,List.getElem?_cons_succ,Option.some.injEq,Prod.mk.injEq] at h;obtain ⟨rfl,rfl,rfl⟩ := h;exact ⟨_,rfl,rfl,Tryz.sizeOf9,Tryz.isAgg9⟩
 | 1,h => by simp only [List.getElem?_cons_zero,List.getElem?_cons_succ,Option.some.injEq,Prod.mk.injEq] at h;obtain ⟨rfl,rfl,rfl⟩ := h;exact ⟨_,rfl,rfl,Tryz.sizeOf3,Tryz.isAgg3⟩
 | (i + 2),h => by simp at h⟩
instance ty164 : Ty Tryz.prog 164 false 1 [.nilFunc] 8 := ⟨⟨Tryz.t164,_,by kernel_rfl,rfl,rfl,rfl,rfl⟩,Tryz.isAgg164,Tryz.sizeOf164,⟨_,Tryz.zeroValue164,rfl⟩,⟨_,Tryz.typeInfo164,rfl⟩⟩
instance hu164 : HasUnd Tryz.prog 164 := ⟨_,Tryz.runUnderlying164⟩
instance ty165 : Ty Tryz.prog 165 false 1 [.nilFunc] 8 := ⟨⟨Tryz.t165,_,by kernel_rfl,rfl,rfl,rfl,rfl⟩,Tryz.isAgg165,Tryz.sizeOf165,⟨_,Tryz.zeroValue165,rfl⟩,⟨_,Tryz.typeInfo165,rfl⟩⟩
instance hu165 : HasUnd Tryz.prog 165 := ⟨_,Tryz.runUnderlying165⟩
instance ty166 : Ty Tryz.prog 166 false 1 [.nilFunc] 8 := ⟨⟨Tryz.t166,_,by kernel_rfl,rfl,rfl,rfl,rfl⟩,Tryz.isAgg166,Tryz.sizeOf166,⟨_,Tryz.zeroValue166,rfl⟩,⟨_,Tryz.typeInfo166,rfl⟩⟩
instance hu166 : HasUnd Tryz.prog 166 := ⟨_,Tryz.runUnderlying166⟩
instance ty167 : Ty Tryz.prog 167 false 1 [.nilFunc] 8 := ⟨⟨Tryz.t167,_,by kernel_rfl,rfl,rfl,rfl,rfl⟩,Tryz.isAgg167,Tryz.sizeOf167,⟨_,Tryz.zeroValue167,rfl⟩,⟨_,Tryz.typeInfo167,rfl⟩⟩
instance hu167 : HasUnd Tryz.prog 167 := ⟨_,Tryz.runUnderlying167⟩
instance ty168 : Ty Tryz.prog 168 false 1 [.nilFunc] 8 := ⟨⟨Tryz.t168,_,by kernel_rfl,rfl,rfl,rfl,rfl⟩,Tryz.isAgg168,Tryz.sizeOf168,⟨_,Tryz.zeroValue168,rfl⟩,⟨_,Tryz.typeInfo168,rfl⟩⟩
instance hu168 : HasUnd Tryz.prog 168 := ⟨_,Tryz.runUnderlying168⟩
instance ty169 : Ty Tryz.prog 169 false 1 [.pointer none] 8 := ⟨⟨Tryz.t169,_,by kernel_rfl,rfl,rfl,rfl,rfl⟩,Tryz.isAgg169,Tryz.sizeOf169,⟨_,Tryz.zeroValue169,rfl⟩,⟨_,Tryz.typeInfo169,rfl⟩⟩
instance hu169 : HasUnd Tryz.prog 169 := ⟨_,Tryz.runUnderlying169⟩
instance pt169 : PtrTy Tryz.prog 169 34 := ⟨Tryz.runUnderlying169,Tryz.underlying169⟩
instance ty170 : Ty Tryz.prog 170 false 1 [.nilFunc] 8 := ⟨⟨Tryz.t170,_,by kernel_rfl,rfl,rfl,rfl,rfl⟩,Tryz.isAgg170,Tryz.sizeOf170,⟨_,Tryz.zeroValue170,rfl⟩,⟨_,Tryz.typeInfo170,rfl⟩⟩
instance hu170 : HasUnd Tryz.prog 170 := ⟨_,Tryz.runUnderlying170⟩
instance ty171 : Ty Tryz.prog 171 false 1 [.nilFunc] 8 := ⟨⟨Tryz.t171,_,by kernel_rfl,rfl,rfl,rfl,rfl⟩,Tryz.isAgg171,Tryz.sizeOf171,⟨_,Tryz.zeroValue171,rfl⟩,⟨_,Tryz.typeInfo171,rfl⟩⟩
instance hu171 : HasUnd Tryz.prog 171 := ⟨_,Tryz.runUnderlying171⟩
instance ty172 : Ty Tryz.prog 172 false 1 [.nilFunc] 8 := ⟨⟨Tryz.t172,_,by kernel_rfl,rfl,rfl,rfl,rfl⟩,Tryz.isAgg172,Tryz.sizeOf172,⟨_,Tryz.zeroValue172,rfl⟩,⟨_,Tryz.typeInfo172,rfl⟩⟩
instance hu172 : HasUnd Tryz.prog 172 := ⟨_,Tryz.runUnderlying172⟩
instance ty173 : Ty Tryz.prog 173 false 1 [.nilFunc] 8 := ⟨⟨Tryz.t173,_,by kernel_rfl,rfl,rfl,rfl,rfl⟩,Tryz.isAgg173,Tryz.sizeOf173,⟨_,Tryz.zeroValue173,rfl⟩,⟨_,Tryz.typeInfo173,rfl⟩⟩
instance hu173 : HasUnd Tryz.prog 173 := ⟨_,Tryz.runUnderlying173⟩
instance ty174 : Ty Tryz.prog 174 false 1 [.nilFunc] 8 := ⟨⟨Tryz.t174,_,by kernel_rfl,rfl,rfl,rfl,rfl⟩,Tryz.isAgg174,Tryz.sizeOf174,⟨_,Tryz.zeroValue174,rfl⟩,⟨_,Tryz.typeInfo174,rfl⟩⟩
instance hu174 : HasUnd Tryz.prog 174 := ⟨_,Tryz.runUnderlying174⟩
instance ty175 : Ty Tryz.prog 175 false 1 [.nilFunc] 8 := ⟨⟨Tryz.t175,_,by kernel_rfl,rfl,rfl,rfl,rfl⟩,Tryz.isAgg175,Tryz.sizeOf175,⟨_,Tryz.zeroValue175,rfl⟩,⟨_,Tryz.typeInfo175,rfl⟩⟩
instance hu175 : HasUnd Tryz.prog 175 := ⟨_,Tryz.runUnderlying175⟩
instance ty176 : Ty Tryz.prog 176 false 1 [.nilFunc] 8 := ⟨⟨Tryz.t176,_,by kernel_rfl,rfl,rfl,rfl,rfl⟩,Tryz.isAgg176,Tryz.sizeOf176,⟨_,Tryz.zeroValue176,rfl⟩,⟨_,Tryz.typeInfo176,rfl⟩⟩
instance hu176 : HasUnd Tryz.prog 176 := ⟨_,Tryz.runUnderlying176⟩
instance ty177 : Ty Tryz.prog 177 false 1 [.nilFunc] 8 := ⟨⟨Tryz.t177,_,by kernel_rfl,rfl,rfl,rfl,rfl⟩,Tryz.isAgg177,Tryz.sizeOf177,⟨_,Tryz.zeroValue177,rfl⟩,⟨_,Tryz.typeInfo177,rfl⟩⟩
instance hu177 : HasUnd Tryz.prog 177 := ⟨_,Tryz.runUnderlying177⟩
instance ty178 : Ty Tryz.prog 178 false 1 [.nilFunc] 8 := ⟨⟨Tryz.t178,_,by kernel_rfl,rfl,rfl,rfl,rfl⟩,Tryz.isAgg178,Tryz.sizeOf178,⟨_,Tryz.zeroValue178,rfl⟩,⟨_,Tryz.typeInfo178,rfl⟩⟩
instance hu178 : HasUnd Tryz.prog 178 := ⟨_,Tryz.runUnderlying178⟩
instance ty179 : Ty Tryz.prog 179 false 1 [.nilFunc] 8 := ⟨⟨Tryz.t179,_,by kernel_rfl,rfl,rfl,rfl,rfl⟩,Tryz.isAgg179,Tryz.sizeOf179,⟨_,Tryz.zeroValue179,rfl⟩,⟨_,Tryz.typeInfo179,rfl⟩⟩
instance hu179 : HasUnd Tryz.prog 179 := ⟨_,Tryz.runUnderlying179⟩
instance ty180 : Ty Tryz.prog 180 false 1 [.nilFunc] 8 := ⟨⟨Tryz.t180,_,by kernel_rfl,rfl,rfl,rfl,rfl⟩,Tryz.isAgg180,Tryz.sizeOf180,⟨_,Tryz.zeroValue180,rfl⟩,⟨_,Tryz.typeInfo180,rfl⟩⟩
instance hu180 : HasUnd Tryz.prog 180 := ⟨_,Tryz.runUnderlying180⟩
instance ty181 : Ty Tryz.prog 181 true 2 [.slice none 0 0,.int .i64 0] 32 := ⟨⟨Tryz.t181,_,by kernel_rfl,rfl,rfl,rfl,rfl⟩,Tryz.isAgg181,Tryz.sizeOf181,⟨_,Tryz.zeroValue181,rfl⟩,⟨_,Tryz.typeInfo181,rfl⟩⟩
instance hu181 : HasUnd Tryz.prog 181 := ⟨_,Tryz.runUnderlying181⟩
instance ss181 : StTy Tryz.prog 181 [(0,1,false),(1,1,false)] := ⟨_,Tryz.runUnderlying181,rfl,fun i off sz ag h => match i,h with
 | 0,h => by simp only [List.getElem?_cons_zero,List.getElem?_cons_succ,Option.some.injEq,Prod.mk.injEq] at h;obtain ⟨rfl,rfl,rfl⟩ := h;exact ⟨_,rfl,rfl,Tryz.sizeOf67,Tryz.isAgg67⟩
 | 1,h => by simp only [List.getElem?_cons_zero,List.getElem?_cons_succ,Option.some.injEq,Prod.mk.injEq] at h;obtain ⟨rfl,rfl,rfl⟩ := h;exact ⟨_,rfl,rfl,Tryz.sizeOf25,Tryz.isAgg25⟩
 | (i + 2),h => by simp at h⟩
instance ty182 : Ty Tryz.prog 182 true 2 [.slice none 0 0,.int .i64 0] 32 := ⟨⟨Tryz.t182,_,by kernel_rfl,rfl,rfl,rfl,rfl⟩,Tryz.isAgg182,Tryz.sizeOf182,⟨_,Tryz.zeroValue182,rfl⟩,⟨_,Tryz.typeInfo182,rfl⟩⟩
instance hu182 : HasUnd Tryz.prog 182 := ⟨_,Tryz.runUnderlying182⟩
instance ss182 : StTy Tryz.prog 182 [(0,1,false),(1,1,false)] := ⟨_,Tryz.runUnderlying182,rfl,fun i off sz ag h => match i,h with
 | 0,h => by simp only [List.getElem?_cons_zero,List.getElem?_cons_succ,Option.some.injEq,Prod.mk.injEq] at h;obtain ⟨rfl,rfl,rfl⟩ := h;exact ⟨_,rfl,rfl,Tryz.sizeOf67,Tryz.isAgg67⟩
 | 1,h => by simp only [List.getElem?_cons_zero,List.getElem?_cons_succ,Option.some.injEq,Prod.mk.injEq] at h;obtain ⟨rfl,rfl,rfl⟩ := h;exact ⟨_,rfl,rfl,Tryz.sizeOf25,Tryz.isAgg25⟩
 | (i + 2),h => by simp at h⟩
instance hu183 : HasUnd Tryz.prog 183 := ⟨_,Tryz.runUnderlying183⟩
instance ty184 : Ty Tryz.prog 184 false 1 [.nilFunc] 8 := ⟨⟨Tryz.t184,_,by kernel_rfl,rfl,rfl,rfl,rfl⟩,Tryz.isAgg184,Tryz.sizeOf184,⟨_,Tryz.zeroValue184,rfl⟩,⟨_,Tryz.typeInfo184,rfl⟩⟩
instance hu184 : HasUnd Tryz.prog 184 := ⟨_,Tryz.runUnderlying184⟩
instance ty185 : Ty Tryz.prog 185 false 1 [.nilFunc] 8 := ⟨⟨Tryz.t185,_,by kernel_rfl,rfl,rfl,rfl,rfl⟩,Tryz.isAgg185,Tryz.sizeOf185,⟨_,Tryz.zeroValue185,rfl⟩,⟨_,Tryz.typeInfo185,rfl⟩⟩
instance hu185 : HasUnd Tryz.prog 185 := ⟨_,Tryz.runUnderlying185⟩
instance hu186 : HasUnd Tryz.prog 186 := ⟨_,Tryz.runUnderlying186⟩
instance ty187 : Ty Tryz.prog 187 false 1 [.nilFunc] 8 := ⟨⟨Tryz.t187,_,by kernel_rfl,rfl,rfl,rfl,rfl⟩,Tryz.isAgg187,Tryz.sizeOf187,⟨_,Tryz.zeroValue187,rfl⟩,⟨_,Tryz.typeInfo187,rfl⟩⟩
instance hu187 : HasUnd Tryz.prog 187 := ⟨_,Tryz.runUnderlying187⟩
instance ty188 : Ty Tryz.prog 188 false 1 [.nilFunc] 8 := ⟨⟨Tryz.t188,_,by kernel_rfl,rfl,rfl,rfl,rfl⟩,Tryz.isAgg188,Tryz.sizeOf188,⟨_,Tryz.zeroValue188,rfl⟩,⟨_,Tryz.typeInfo188,rfl⟩⟩
instance hu188 : HasUnd Tryz.prog 188 := ⟨_,Tryz.runUnderlying188⟩
instance ty189 : Ty Tryz.prog 189 true 46 [.string ⟨#[]⟩,.int .i64 0,.string ⟨#[]⟩,.int .i64 0,.string ⟨#[]⟩,.int .i64 0,.string ⟨#[]⟩,.int .i64 0,.string ⟨#[]⟩,.int .i64 0,.string ⟨#[]⟩,.int .i64 0,.string ⟨#[]⟩,.int .i64 0,.string ⟨#[]⟩,.int .i64 0,.string ⟨#[]⟩,.int .i64 0,.string ⟨#[]⟩,.int .i64 0,.string ⟨#[]⟩,.int .i64 0,.string ⟨#[]⟩,.int .i64 0,.string ⟨#[]⟩,.int .i64 0,.string ⟨#[]⟩,.int .i64 0,.string ⟨#[]⟩,.int .i64 0,.string ⟨#[]⟩,.int .i64 0,.string ⟨#[]⟩,.int .i64 0,.string ⟨#[]⟩,.int .i64 0,.string ⟨#[]⟩,.int .i64 0,.string ⟨#[]⟩,.int .i64 0,.string ⟨#[]⟩,.int .i64 0,.string ⟨#[]⟩,.int .i64 0,.string ⟨#[]⟩,.int .i64 0] 552 := ⟨⟨Tryz.t189,_,by kernel_rfl,rfl,rfl,rfl,rfl⟩,Tryz.isAgg189,Tryz.sizeOf189,⟨_,Tryz.zeroValue189,rfl⟩,⟨_,Tryz.typeInfo189,rfl⟩⟩
instance hu189 : HasUnd Tryz.prog 189 := ⟨_,Tryz.runUnderlying189⟩
instance at189 : ArrTy Tryz.prog 189 23 163 := ⟨Tryz.runUnderlying189,Tryz.underlying189⟩
instance ty190 : Ty Tryz.prog 190 true 15 [.bool false,.bool false,.bool false,.bool false,.bool false,.bool false,.bool false,.bool false,.bool false,.bool false,.bool false,.bool false,.bool false,.bool false,.bool false] 15 := ⟨⟨Tryz.t190,_,by kernel_rfl,rfl,rfl,rfl,rfl⟩,Tryz.isAgg190,Tryz.sizeOf190,⟨_,Tryz.zeroValue190,rfl⟩,⟨_,Tryz.typeInfo190,rfl⟩⟩
instance hu190 : HasUnd Tryz.prog 190 := ⟨_,Tryz.runUnderlying190⟩
instance at190 : ArrTy Tryz.prog 190 15 4 := ⟨Tryz.runUnderlying190,Tryz.underlying190⟩
instance ty191 : Ty Tryz.prog 191 false 1 [.nilFunc] 8 := ⟨⟨Tryz.t191,_,by kernel_rfl,rfl,rfl,rfl,rfl⟩,Tryz.isAgg191,Tryz.sizeOf191,⟨_,Tryz.zeroValue191,rfl⟩,⟨_,Tryz.typeInfo191,rfl⟩⟩
instance hu191 : HasUnd Tryz.prog 191 := ⟨_,Tryz.runUnderlying191⟩
instance ty192 : Ty Tryz.prog 192 false 1 [.nilFunc] 8 := ⟨⟨Tryz.t192,_,by kernel_rfl,rfl,rfl,rfl,rfl⟩,Tryz.isAgg192,Tryz.sizeOf192,⟨_,Tryz.zeroValue192,rfl⟩,⟨_,Tryz.typeInfo192,rfl⟩⟩
instance hu192 : HasUnd Tryz.prog 192 := ⟨_,Tryz.runUnderlying192⟩
instance ty193 : Ty Tryz.prog 193 false 1 [.nilFunc] 8 := ⟨⟨Tryz.t193,_,by kernel_rfl,rfl,rfl,rfl,rfl⟩,Tryz.isAgg193,Tryz.sizeOf193,⟨_,Tryz.zeroValue193,rfl⟩,⟨_,Tryz.typeInfo193,rfl⟩⟩
instance hu193 : HasUnd Tryz.prog 193 := ⟨_,Tryz.runUnderlying193⟩
instance ty194 : Ty Tryz.prog 194 false 1 [.nilFunc] 8 := ⟨⟨Tryz.t194,_,by kernel_rfl,rfl,rfl,rfl,rfl⟩,Tryz.isAgg194,Tryz.sizeOf194,⟨_,Tryz.zeroValue194,rfl⟩,⟨_,Tryz.typeInfo194,rfl⟩⟩
instance hu194 : HasUnd Tryz.prog 194 := ⟨_,Tryz.runUnderlying194⟩
instance ty195 : Ty Tryz.prog 195 false 1 [.nilFunc] 8 := ⟨⟨Tryz.t195,_,by kernel_rfl,rfl,rfl,rfl,rfl⟩,Tryz.isAgg195,Tryz.sizeOf195,⟨_,Tryz.zeroValue195,rfl⟩,⟨_,Tryz.typeInfo195,rfl⟩⟩
instance hu195 : HasUnd Tryz.prog 195 := ⟨_,Tryz.runUnderlying195⟩
instance hu196 : HasUnd Tryz.prog 196 := ⟨_,Tryz.runUnderlying196⟩
instance ty197 : Ty Tryz.prog 197 false 1 [.nilFunc] 8 := ⟨⟨Tryz.t197,_,by kernel_rfl,rfl,rfl,rfl,rfl⟩,Tryz.isAgg197,Tryz.sizeOf197,⟨_,Tryz.zeroValue197,rfl⟩,⟨_,Tryz.typeInfo197,rfl⟩⟩
instance hu197 : HasUnd Tryz.prog 197 := ⟨_,Tryz.runUnderlying197⟩
instance ty198 : Ty Tryz.prog 198 false 1 [.nilFunc] 8 := ⟨⟨Tryz.t198,_,by kernel_rfl,rfl,rfl,rfl,rfl⟩,Tryz.isAgg198,Tryz.sizeOf198,⟨_,Tryz.zeroValue198,rfl⟩,⟨_,Tryz.typeInfo198,rfl⟩⟩
instance hu198 : HasUnd Tryz.prog 198 := ⟨_,Tryz.runUnderlying198⟩
instance ty199 : Ty Tryz.prog 199 false 1 [.nilFunc] 8 := ⟨⟨Tryz.t199,_,by kernel_rfl,rfl,rfl,rfl,rfl⟩,Tryz.isAgg199,Tryz.sizeOf199,⟨_,Tryz.zeroValue199,rfl⟩,⟨_,Tryz.typeInfo199,rfl⟩⟩
instance hu199 : HasUnd Tryz.prog 199 := ⟨_,Tryz.runUnderlying199⟩
instance ty200 : Ty Tryz.prog 200 false 1 [.nilFunc] 8 := ⟨⟨Tryz.t200,_,by kernel_rfl,rfl,rfl,rfl,rfl⟩,Tryz.isAgg200,Tryz.sizeOf200,⟨_,Tryz.zeroValue200,rfl⟩,⟨_,Tryz.typeInfo200,rfl⟩⟩
instance hu200 : HasUnd Tryz.prog 200 := ⟨_,Tryz.runUnderlying200⟩
instance ty201 : Ty Tryz.prog 201 false 1 [.nilFunc] 8 := ⟨⟨Tryz.t201,_,by kernel_rfl,rfl,rfl,rfl,rfl⟩,Tryz.isAgg201,Tryz.sizeOf201,⟨_,Tryz.zeroValue201,rfl⟩,⟨_,Tryz.typeInfo201,rfl⟩⟩
instance hu201 : HasUnd Tryz.prog 201 := ⟨_,Tryz.runUnderlying201⟩
instance ty202 : Ty Tryz.prog 202 false 1 [.nilFunc] 8 := ⟨⟨Tryz.t202,_,by kernel_rfl,rfl,rfl,rfl,rfl⟩,Tryz.isAgg202,Tryz.sizeOf202,⟨_,Tryz.zeroValue202,rfl⟩,⟨_,Tryz.typeInfo202,rfl⟩⟩
instance hu202 : HasUnd Tryz.prog 202 := ⟨_,Tryz.runUnderlying202⟩
instance ty203 : Ty Tryz.prog 203 false 1 [.nilFunc] 8 := ⟨⟨Tryz.t203,_,by kernel_rfl,rfl,rfl,rfl,rfl⟩,Tryz.isAgg203,Tryz.sizeOf203,⟨_,Tryz.zeroValue203,rfl⟩,⟨_,Tryz.typeInfo203,rfl⟩⟩
instance hu203 : HasUnd Tryz.prog 203 := ⟨_,Tryz.runUnderlying203⟩
instance hu204 : HasUnd Tryz.prog 204 := ⟨_,Tryz.runUnderlying204⟩
instance ty205 : Ty Tryz.prog 205 false 1 [.nilFunc] 8 := ⟨⟨Tryz.t205,_,by kernel_rfl,rfl,rfl,rfl,rfl⟩,Tryz.isAgg205,Tryz.sizeOf205,⟨_,Tryz.zeroValue205,rfl⟩,⟨_,Tryz.typeInfo205,rfl⟩⟩
instance hu205 : HasUnd Tryz.prog 205 := ⟨_,Tryz.runUnderlying205⟩
instance ty206 : Ty Tryz.prog 206 false 1 [.nilFunc] 8 := ⟨⟨Tryz.t206,_,by kernel_rfl,rfl,rfl,rfl,rfl⟩,Tryz.isAgg206,Tryz.sizeOf206,⟨_,Tryz.zeroValue206,rfl⟩,⟨_,Tryz.typeInfo206,rfl⟩⟩
instance hu206 : HasUnd Tryz.prog 206 := ⟨_,Tryz.runUnderlying206⟩
instance ty207 : Ty Tryz.prog 207 false 1 [.nilFunc] 8 := ⟨⟨Tryz.t207,_,by kernel_rfl,rfl,rfl,rfl,rfl⟩,Tryz.isAgg207,Tryz.sizeOf207,⟨_,Tryz.zeroValue207,rfl⟩,⟨_,Tryz.typeInfo207,rfl⟩⟩
instance hu207 : HasUnd Tryz.prog 207 := ⟨_,Tryz.runUnderlying207⟩
instance ty208 : Ty Tryz.prog 208 false 1 [.nilFunc] 8 := ⟨⟨Tryz.t208,_,by kernel_rfl,rfl,rfl,rfl,rfl⟩,Tryz.isAgg208,Tryz.sizeOf208,⟨_,Tryz.zeroValue208,rfl⟩,⟨_,Tryz.typeInfo208,rfl⟩⟩
instance hu208 : HasUnd Tryz.prog 208 := ⟨_,Tryz.runUnderlying208⟩
instance ty209 : Ty Tryz.prog 209 false 1 [.nilFunc] 8 := ⟨⟨Tryz.t209,_,by kernel_rfl,rfl,rfl,rfl,rfl⟩,Tryz.isAgg209,Tryz.sizeOf209,⟨_,Tryz.zeroValue209,rfl⟩,⟨_,Tryz.typeInfo209,rfl⟩⟩
instance hu209 : HasUnd Tryz.prog 209 := ⟨_,Tryz.runUnderlying209⟩
instance ty210 : Ty Tryz.prog 210 false 1 [.nilFunc] 8 := ⟨⟨Tryz.t210,_,by kernel_rfl,rfl,rfl,rfl,rfl⟩,Tryz.isAgg210,Tryz.sizeOf210,⟨_,Tryz.zeroValue210,rfl⟩,⟨_,Tryz.typeInfo210,rfl⟩⟩
instance hu210 : HasUnd Tryz.prog 210 := ⟨_,Tryz.runUnderlying210⟩
instance ty211 : Ty Tryz.prog 211 false 1 [.nilFunc] 8 := ⟨⟨Tryz.t211,_,by kernel_rfl,rfl,rfl,rfl,rfl⟩,Tryz.isAgg211,Tryz.sizeOf211,⟨_,Tryz.zeroValue211,rfl⟩,⟨_,Tryz.typeInfo211,rfl⟩⟩
instance hu211 : HasUnd Tryz.prog 211 := ⟨_,Tryz.runUnderlying211⟩
instance ty212 : Ty Tryz.prog 212 false 1 [.nilFunc] 8 := ⟨⟨Tryz.t212,_,by kernel_rfl,rfl,rfl,rfl,rfl⟩,Tryz.isAgg212,Tryz.sizeOf212,⟨_,Tryz.zeroValue212,rfl⟩,⟨_,Tryz.typeInfo212,rfl⟩⟩
instance hu212 : HasUnd Tryz.prog 212 := ⟨_,Tryz.runUnderlying212⟩
instance ty213 : Ty Tryz.prog 213 false 1 [.nilFunc] 8 := ⟨⟨Tryz.t213,_,by kernel_rfl,rfl,rfl,rfl,rfl⟩,Tryz.isAgg213,Tryz.sizeOf213,⟨_,Tryz.zeroValue213,rfl⟩,⟨_,Tryz.typeInfo213,rfl⟩⟩
instance hu213 : HasUnd Tryz.prog 213 := ⟨_,Tryz.runUnderlying213⟩
instance ty214 : Ty Tryz.prog 214 false 1 [.nilFunc] 8 := ⟨⟨Tryz.t214,_,by kernel_rfl,rfl,rfl,rfl,rfl⟩,Tryz.isAgg214,Tryz.sizeOf214,⟨_,Tryz.zeroValue214,rfl⟩,⟨_,Tryz.typeInfo214,rfl⟩⟩
instance hu214 : HasUnd Tryz.prog 214 := ⟨_,Tryz.runUnderlying214⟩
instance ty215 : Ty Tryz.prog 215 false 1 [.nilFunc] 8 := ⟨⟨Tryz.t215,_,by kernel_rfl,rfl,rfl,rfl,rfl⟩,Tryz.isAgg215,Tryz.sizeOf215,⟨_,Tryz.zeroValue215,rfl⟩,⟨_,Tryz.typeInfo215,rfl⟩⟩
instance hu215 : HasUnd Tryz.prog 215 := ⟨_,Tryz.runUnderlying215⟩
instance ty216 : Ty Tryz.prog 216 false 1 [.int .i64 0] 8 := ⟨⟨Tryz.t216,_,by kernel_rfl,rfl,rfl,rfl,rfl⟩,Tryz.isAgg216,Tryz.sizeOf216,⟨_,Tryz.zeroValue216,rfl⟩,⟨_,Tryz.typeInfo216,rfl⟩⟩
instance hu216 : HasUnd Tryz.prog 216 := ⟨_,Tryz.runUnderlying216⟩
instance it216 : IntTy Tryz.prog 216 .i64 := ⟨Tryz.runUnderlying216,Tryz.underlying216⟩
instance hu217 : HasUnd Tryz.prog 217 := ⟨_,Tryz.runUnderlying217⟩
instance ty218 : Ty Tryz.prog 218 false 1 [.nilFunc] 8 := ⟨⟨Tryz.t218,_,by kernel_rfl,rfl,rfl,rfl,rfl⟩,Tryz.isAgg218,Tryz.sizeOf218,⟨_,Tryz.zeroValue218,rfl⟩,⟨_,Tryz.typeInfo218,rfl⟩⟩
instance hu218 : HasUnd Tryz.prog 218 := ⟨_,Tryz.runUnderlying218⟩
instance ty219 : Ty Tryz.prog 219 false 1 [.nilFunc] 8 := ⟨⟨Tryz.t219,_,by kernel_rfl,rfl,rfl,rfl,rfl⟩,Tryz.isAgg219,Tryz.sizeOf219,⟨_,Tryz.zeroValue219,rfl⟩,⟨_,Tryz.typeInfo219,rfl⟩⟩
instance hu219 : HasUnd Tryz.prog 219 := ⟨_,Tryz.runUnderlying219⟩
instance ty220 : Ty Tryz.prog 220 false 1 [.nilFunc] 8 := ⟨⟨Tryz.t220,_,by kernel_rfl,rfl,rfl,rfl,rfl⟩,Tryz.isAgg220,Tryz.sizeOf220,⟨_,Tryz.zeroValue220,rfl⟩,⟨_,Tryz.typeInfo220,rfl⟩⟩
instance hu220 : HasUnd Tryz.prog 220 := ⟨_,Tryz.runUnderlying220⟩
instance ty221 : Ty Tryz.prog 221 false 1 [.nilFunc] 8 := ⟨⟨Tryz.t221,_,by kernel_rfl,rfl,rfl,rfl,rfl⟩,Tryz.isAgg221,Tryz.sizeOf221,⟨_,Tryz.zeroValue221,rfl⟩,⟨_,Tryz.typeInfo221,rfl⟩⟩
instance hu221 : HasUnd Tryz.prog 221 := ⟨_,Tryz.runUnderlying221⟩
instance ty222 : Ty Tryz.prog 222 false 1 [.nilFunc] 8 := ⟨⟨Tryz.t222,_,by kernel_rfl,rfl,rfl,rfl,rfl⟩,Tryz.isAgg222,Tryz.sizeOf222,⟨_,Tryz.zeroValue222,rfl⟩,⟨_,Tryz.typeInfo222,rfl⟩⟩
instance hu222 : HasUnd Tryz.prog 222 := ⟨_,Tryz.runUnderlying222⟩
instance ty223 : Ty Tryz.prog 223 false 1 [.nilFunc] 8 := ⟨⟨Tryz.t223,_,by kernel_rfl,rfl,rfl,rfl,rfl⟩,Tryz.isAgg223,Tryz.sizeOf223,⟨_,Tryz.zeroValue223,rfl⟩,⟨_,Tryz.typeInfo223,rfl⟩⟩
instance hu223 : HasUnd Tryz.prog 223 := ⟨_,Tryz.runUnderlying223⟩
instance ty224 : Ty Tryz.prog 224 false 1 [.int .u32 0] 4 := ⟨⟨Tryz.t224,_,by kernel_rfl,rfl,rfl,rfl,rfl⟩,Tryz.isAgg224,Tryz.sizeOf224,⟨_,Tryz.zeroValue224,rfl⟩,⟨_,Tryz.typeInfo224,rfl⟩⟩
instance hu224 : HasUnd Tryz.prog 224 := ⟨_,Tryz.runUnderlying224⟩
instance it224 : IntTy Tryz.prog 224 .u32 := ⟨Tryz.runUnderlying224,Tryz.underlying224⟩
instance hu225 : HasUnd Tryz.prog 225 := ⟨_,Tryz.runUnderlying225⟩
instance ty226 : Ty Tryz.prog 226 false 1 [.nilFunc] 8 := ⟨⟨Tryz.t226,_,by kernel_rfl,rfl,rfl,rfl,rfl⟩,Tryz.isAgg226,Tryz.sizeOf226,⟨_,Tryz.zeroValue226,rfl⟩,⟨_,Tryz.typeInfo226,rfl⟩⟩
instance hu226 : HasUnd Tryz.prog 226 := ⟨_,Tryz.runUnderlying226⟩
instance ty227 : Ty Tryz.prog 227 false 1 [.nilFunc] 8 := ⟨⟨Tryz.t227,_,by kernel_rfl,rfl,rfl,rfl,rfl⟩,Tryz.isAgg227,Tryz.sizeOf227,⟨_,Tryz.zeroValue227,rfl⟩,⟨_,Tryz.typeInfo227,rfl⟩⟩
instance hu227 : HasUnd Tryz.prog 227 := ⟨_,Tryz.runUnderlying227⟩
instance ty228 : Ty Tryz.prog 228 false 1 [.nilFunc] 8 := ⟨⟨Tryz.t228,_,by kernel_rfl,rfl,rfl,rfl,rfl⟩,Tryz.isAgg228,Tryz.sizeOf228,⟨_,Tryz.zeroValue228,rfl⟩,⟨_,Tryz.typeInfo228,rfl⟩⟩
instance hu228 : HasUnd Tryz.prog 228 := ⟨_,Tryz.runUnderlying228⟩
instance ty229 : Ty Tryz.prog 229 false 1 [.nilFunc] 8 := ⟨⟨Tryz.t229,_,by kernel_rfl,rfl,rfl,rfl,rfl⟩,Tryz.isAgg229,Tryz.sizeOf229,⟨_,Tryz.zeroValue229,rfl⟩,⟨_,Tryz.typeInfo229,rfl⟩⟩
instance hu229 : HasUnd Tryz.prog 229 := ⟨_,Tryz.runUnderlying229⟩
instance ty230 : Ty Tryz.prog 230 false 1 [.nilFunc] 8 := ⟨⟨Tryz.t230,_,by kernel_rfl,rfl,rfl,rfl,rfl⟩,Tryz.isAgg230,Tryz.sizeOf230,⟨_,Tryz.zeroValue230,rfl⟩,⟨_,Tryz.typeInfo230,rfl⟩⟩
instance hu230 : HasUnd Tryz.prog 230 := ⟨_,Tryz.runUnderlying230⟩
instance ty231 : Ty Tryz.prog 231 false 1 [.nilFunc] 8 := ⟨⟨Tryz.t231,_,by kernel_rfl,rfl,rfl,rfl,rfl⟩,Tryz.isAgg231,Tryz.sizeOf231,⟨_,Tryz.zeroValue231,rfl⟩,⟨_,Tryz.typeInfo231,rfl⟩⟩
instance hu231 : HasUnd Tryz.prog 231 := ⟨_,Tryz.runUnderlying231⟩
instance ty232 : Ty Tryz.prog 232 false 1 [.nilFunc] 8 := ⟨⟨Tryz.t232,_,by kernel_rfl,rfl,rfl,rfl,rfl⟩,Tryz.isAgg232,Tryz.sizeOf232,⟨_,Tryz.zeroValue232,rfl⟩,⟨_,Tryz.typeInfo232,rfl⟩⟩
instance hu232 : HasUnd Tryz.prog 232 := ⟨_,Tryz.runUnderlying232⟩
instance ty233 : Ty Tryz.prog 233 false 1 [.int .u64 0] 8 := ⟨⟨Tryz.t233,_,by kernel_rfl,rfl,rfl,rfl,rfl⟩,Tryz.isAgg233,Tryz.sizeOf233,⟨_,Tryz.zeroValue233,rfl⟩,⟨_,Tryz.typeInfo233,rfl⟩⟩
instance hu233 : HasUnd Tryz.prog 233 := ⟨_,Tryz.runUnderlying233⟩
instance it233 : IntTy Tryz.prog 233 .u64 := ⟨Tryz.runUnderlying233,Tryz.underlying233⟩
instance ty234 : Ty Tryz.prog 234 false 1 [.nilFunc] 8 := ⟨⟨Tryz.t234,_,by kernel_rfl,rfl,rfl,rfl,rfl⟩,Tryz.isAgg234,Tryz.sizeOf234,⟨_,Tryz.zeroValue234,rfl⟩,⟨_,Tryz.typeInfo234,rfl⟩⟩
instance hu234 : HasUnd Tryz.prog 234 := ⟨_,Tryz.runUnderlying234⟩
instance ty235 : Ty Tryz.prog 235 false 1 [.nilFunc] 8 := ⟨⟨Tryz.t235,_,by kernel_rfl,rfl,rfl,rfl,rfl⟩,Tryz.isAgg235,Tryz.sizeOf235,⟨_,Tryz.zeroValue235,rfl⟩,⟨_,Tryz.typeInfo235,rfl⟩⟩
instance hu235 : HasUnd Tryz.prog 235 := ⟨_,Tryz.runUnderlying235⟩
instance ty236 : Ty Tryz.prog 236 false 1 [.pointer none] 8 := ⟨⟨Tryz.t236,_,by kernel_rfl,rfl,rfl,rfl,rfl⟩,Tryz.isAgg236,Tryz.sizeOf236,⟨_,Tryz.zeroValue236,rfl⟩,⟨_,Tryz.typeInfo236,rfl⟩⟩
instance hu236 : HasUnd Tryz.prog 236 := ⟨_,Tryz.runUnderlying236⟩
instance pt236 : PtrTy Tryz.prog 236 3 := ⟨Tryz.runUnderlying236,Tryz.underlying236⟩
instance ty237 : Ty Tryz.prog 237 false 1 [.nilFunc] 8 := ⟨⟨Tryz.t237,_,by kernel_rfl,rfl,rfl,rfl,rfl⟩,Tryz.isAgg237,Tryz.sizeOf237,⟨_,Tryz.zeroValue237,rfl⟩,⟨_,Tryz.typeInfo237,rfl⟩⟩
instance hu237 : HasUnd Tryz.prog 237 := ⟨_,Tryz.runUnderlying237⟩
instance ty238 : Ty Tryz.prog 238 false 1 [.nilFunc] 8 := ⟨⟨Tryz.t238,_,by kernel_rfl,rfl,rfl,rfl,rfl⟩,Tryz.isAgg238,Tryz.sizeOf238,⟨_,Tryz.zeroValue238,rfl⟩,⟨_,Tryz.typeInfo238,rfl⟩⟩
instance hu238 : HasUnd Tryz.prog 238 := ⟨_,Tryz.runUnderlying238⟩
instance ty239 : Ty Tryz.prog 239 false 1 [.nilFunc] 8 := ⟨⟨Tryz.t239,_,by kernel_rfl,rfl,rfl,rfl,rfl⟩,Tryz.isAgg239,Tryz.sizeOf239,⟨_,Tryz.zeroValue239,rfl⟩,⟨_,Tryz.typeInfo239,rfl⟩⟩
instance hu239 : HasUnd Tryz.prog 239 := ⟨_,Tryz.runUnderlying239⟩
instance ty240 : Ty Tryz.prog 240 false 1 [.pointer none] 8 := ⟨⟨Tryz.t240,_,by kernel_rfl,rfl,rfl,rfl,rfl⟩,Tryz.isAgg240,Tryz.sizeOf240,⟨_,Tryz.zeroValue240,rfl⟩,⟨_,Tryz.typeInfo240,rfl⟩⟩
instance hu240 : HasUnd Tryz.prog 240 := ⟨_,Tryz.runUnderlying240⟩
instance pt240 : PtrTy Tryz.prog 240 233 := ⟨Tryz.runUnderlying240,Tryz.underlying240⟩
instance hu241 : HasUnd Tryz.prog 241 := ⟨_,Tryz.runUnderlying241⟩
instance ty242 : Ty Tryz.prog 242 false 1 [.nilFunc] 8 := ⟨⟨Tryz.t242,_,by kernel_rfl,rfl,rfl,rfl,rfl⟩,Tryz.isAgg242,Tryz.sizeOf242,⟨_,Tryz.zeroValue242,rfl⟩,⟨_,Tryz.typeInfo242,rfl⟩⟩
instance hu242 : HasUnd Tryz.prog 242 := ⟨_,Tryz.runUnderlying242⟩
instance ty243 : Ty Tryz.prog 243 false 1 [.nilFunc] 8 := ⟨⟨Tryz.t243,_,by kernel_rfl,rfl,rfl,rfl,rfl⟩,Tryz.isAgg243,Tryz.sizeOf243,⟨_,Tryz.zeroValue243,rfl⟩,⟨_,Tryz.typeInfo243,rfl⟩⟩
instance hu243 : HasUnd Tryz.prog 243 := ⟨_,Tryz.runUnderlying243⟩
instance ty244 : Ty Tryz.prog 244 false 1 [.nilFunc] 8 := ⟨⟨Tryz.t244,_,by kernel_rfl,rfl,rfl,rfl,rfl⟩,Tryz.isAgg244,Tryz.sizeOf244,⟨_,Tryz.zeroValue244,rfl⟩,⟨_,Tryz.typeInfo244,rfl⟩⟩
instance hu244 : HasUnd Tryz.prog 244 := ⟨_,Tryz.runUnderlying244⟩
instance ty245 : Ty Tryz.prog 245 true 4 [.pointer none,.pointer none,.pointer none,.string ⟨#[]⟩] 40 := ⟨⟨Tryz.t245,_,by kernel_rfl,rfl,rfl,rfl,rfl⟩,Tryz.isAgg245,Tryz.sizeOf245,⟨_,Tryz.zeroValue245,rfl⟩,⟨_,Tryz.typeInfo245,rfl⟩⟩
instance hu245 : HasUnd Tryz.prog 245 := ⟨_,Tryz.runUnderlying245⟩
instance ss245 : StTy Tryz.prog 245 [(0,1,false),(1,1,false),(2,1,false),(3,1,false)] := ⟨_,Tryz.runUnderlying245,rfl,fun i off sz ag h => match i,h with
 | 0,h => by simp only [List.getElem?_cons_zero,List.getElem?_cons_succ,Option.some.injEq,Prod.mk.injEq] at h;obtain ⟨rfl,rfl,rfl⟩ := h;exact ⟨_,rfl,rfl,Tryz.sizeOf17,Tryz.isAgg17⟩
 | 1,h => by simp only [List.getElem?_cons_zero,List.getElem?_cons_succ,Option.some.injEq,Prod.mk.injEq] at h;obtain ⟨rfl,rfl,rfl⟩ := h;exact ⟨_,rfl,rfl,Tryz.sizeOf17,Tryz.isAgg17⟩
 | 2,h => by simp only [List.getElem?_cons_zero,List.getElem?_cons_succ,Option.some.injEq,Prod.mk.injEq] at h;obtain ⟨rfl,rfl,rfl⟩ := h;exact ⟨_,rfl,rfl,Tryz.sizeOf17,Tryz.isAgg17⟩
 | 3,h => by simp only [List.getElem?_cons_zero,List.getElem?_cons_succ,Option.some.injEq,Prod.mk.injEq] at h;obtain ⟨rfl,rfl,rfl⟩ := h;exact ⟨_,rfl,rfl,Tryz.sizeOf9,Tryz.isAgg9⟩
 | (i + 4),h => by simp at h⟩
instance ty246 : Ty Tryz.prog 246 true 4 [.pointer none,.pointer none,.pointer none,.string ⟨#[]⟩] 40 := ⟨⟨Tryz.t246,_,by kernel_rfl,rfl,rfl,rfl,rfl⟩,Tryz.isAgg246,Tryz.sizeOf246,⟨_,Tryz.zeroValue246,rfl⟩,⟨_,Tryz.typeInfo246,rfl⟩⟩
instance hu246 : HasUnd Tryz.prog 246 := ⟨_,Tryz.runUnderlying246⟩
instance ss246 : StTy Tryz.prog 246 [(0,1,false),(1,1,false),(2,1,false),(3,1,false)] := ⟨_,Tryz.runUnderlying246,rfl,fun i off sz ag h => match i,h with
 | 0,h => by simp only [List.getElem?_cons_zero,List.getElem?_cons_succ,Option.some.injEq,Prod.mk.injEq] at h;obtain ⟨rfl,rfl,rfl⟩ := h;exact ⟨_,rfl,rfl,Tryz.sizeOf17,Tryz.isAgg17⟩
 | 1,h => by simp only [List.getElem?_cons_zero,List.getElem?_cons_succ,Option.some.injEq,Prod.mk.injEq] at h;obtain ⟨rfl,rfl,rfl⟩ := h;exact ⟨_,rfl,rfl,Tryz.sizeOf17,Tryz.isAgg17⟩
 | 2,h => by simp only [List.getElem?_cons_zero,List.getElem?_cons_succ,Option.some.injEq,Prod.mk.injEq] at h;obtain ⟨rfl,rfl,rfl⟩ := h;exact ⟨_,rfl,rfl,Tryz.sizeOf17,Tryz.isAgg17⟩
 | 3,h => by simp only [List.getElem?_cons_zero,List.getElem?_cons_succ,Option.some.injEq,Prod.mk.injEq] at h;obtain ⟨rfl,rfl,rfl⟩ := h;exact ⟨_,rfl,rfl,Tryz.sizeOf9,Tryz.isAgg9⟩
 | (i + 4),h => by simp at h⟩
instance ty247 : Ty Tryz.prog 247 true 0 [] 0 := ⟨⟨Tryz.t247,_,by kernel_rfl,rfl,rfl,rfl,rfl⟩,Tryz.isAgg247,Tryz.sizeOf247,⟨_,Tryz.zeroValue247,rfl⟩,⟨_,Tryz.typeInfo247,rfl⟩⟩
instance hu247 : HasUnd Tryz.prog 247 := ⟨_,Tryz.runUnderlying247⟩
instance at247 : ArrTy Tryz.prog 247 0 16 := ⟨Tryz.runUnderlying247,Tryz.underlying247⟩
instance ty248 : Ty Tryz.prog 248 true 0 [] 0 := ⟨⟨Tryz.t248,_,by kernel_rfl,rfl,rfl,rfl,rfl⟩,Tryz.isAgg248,Tryz.sizeOf248,⟨_,Tryz.zeroValue248,rfl⟩,⟨_,Tryz.typeInfo248,rfl⟩⟩
instance hu248 : HasUnd Tryz.prog 248 := ⟨_,Tryz.runUnderlying248⟩
instance ss248 : StTy Tryz.prog 248 [(0,0,true)] := ⟨_,Tryz.runUnderlying248,rfl,fun i off sz ag h => match i,h with
 | 0,h => by simp only [List.getElem?_cons_zero,List.getElem?_cons_succ,Option.some.injEq,Prod.mk.injEq] at h;obtain ⟨rfl,rfl,rfl⟩ := h;exact ⟨_,rfl,rfl,Tryz.sizeOf247,Tryz.isAgg247⟩
 | (i + 1),h => by simp at h⟩
instance ty249 : Ty Tryz.prog 249 true 0 [] 0 := ⟨⟨Tryz.t249,_,by kernel_rfl,rfl,rfl,rfl,rfl⟩,Tryz.isAgg249,Tryz.sizeOf249,⟨_,Tryz.zeroValue249,rfl⟩,⟨_,Tryz.typeInfo249,rfl⟩⟩
instance hu249 : HasUnd Tryz.prog 249 := ⟨_,Tryz.runUnderlying249⟩
instance ss249 : StTy Tryz.prog 249 [(0,0,true)] := ⟨_,Tryz.runUnderlying249,rfl,fun i off sz ag h => match i,h with
 | 0,h => by simp only [List.getElem?_cons_zero,List.getElem?_cons_succ,Option.some.injEq,Prod.mk.injEq] at h;obtain ⟨rfl,rfl,rfl⟩ := h;exact ⟨_,rfl,rfl,Tryz.sizeOf247,Tryz.isAgg247⟩
 | (i + 1),h => by simp at h⟩
instance ty250 : Ty Tryz.prog 250 false 1 [.int .u8 0] 1 := ⟨⟨Tryz.t250,_,by kernel_rfl,rfl,rfl,rfl,rfl⟩,Tryz.isAgg250,Tryz.sizeOf250,⟨_,Tryz.zeroValue250,rfl⟩,⟨_,Tryz.typeInfo250,rfl⟩⟩
instance hu250 : HasUnd Tryz.prog 250 := ⟨_,Tryz.runUnderlying250⟩
instance it250 : IntTy Tryz.prog 250 .u8 := ⟨Tryz.runUnderlying250,Tryz.underlying250⟩
instance ty251 : Ty Tryz.prog 251 false 1 [.int .u8 0] 1 := ⟨⟨Tryz.t251,_,by kernel_rfl,rfl,rfl,rfl,rfl⟩,Tryz.isAgg251,Tryz.sizeOf251,⟨_,Tryz.zeroValue251,rfl⟩,⟨_,Tryz.typeInfo251,rfl⟩⟩
instance hu251 : HasUnd Tryz.prog 251 := ⟨_,Tryz.runUnderlying251⟩
instance it251 : IntTy Tryz.prog 251 .u8 := ⟨Tryz.runUnderlying251,Tryz.underlying251⟩
instance ty252 : Ty Tryz.prog 252 false 1 [.nilFunc] 8 := ⟨⟨Tryz.t252,_,by kernel_rfl,rfl,rfl,rfl,rfl⟩,Tryz.isAgg252,Tryz.sizeOf252,⟨_,Tryz.zeroValue252,rfl⟩,⟨_,Tryz.typeInfo252,rfl⟩⟩
instance hu252 : HasUnd Tryz.prog 252 := ⟨_,Tryz.runUnderlying252⟩
instance ty253 : Ty Tryz.prog 253 false 1 [.pointer none] 8 := ⟨⟨Tryz.t253,_,by kernel_rfl,rfl,rfl,rfl,rfl⟩,Tryz.isAgg253,Tryz.sizeOf253,⟨_,Tryz.zeroValue253,rfl⟩,⟨_,Tryz.typeInfo253,rfl⟩⟩
instance hu253 : HasUnd Tryz.prog 253 := ⟨_,Tryz.runUnderlying253⟩
instance pt253 : PtrTy Tryz.prog 253 5 := ⟨Tryz.runUnderlying253,Tryz.underlying253⟩
instance ty254 : Ty Tryz.prog 254 false 1 [.int .i32 0] 4 := ⟨⟨Tryz.t254,_,by kernel_rfl,rfl,rfl,rfl,rfl⟩,Tryz.isAgg254,Tryz.sizeOf254,⟨_,Tryz.zeroValue254,rfl⟩,⟨_,Tryz.typeInfo254,rfl⟩⟩
instance hu254 : HasUnd Tryz.prog 254 := ⟨_,Tryz.runUnderlying254⟩
instance it254 : IntTy Tryz.prog 254 .i32 := ⟨Tryz.runUnderlying254,Tryz.underlying254⟩
instance ty255 : Ty Tryz.prog 255 false 1 [.int .i32 0] 4 := ⟨⟨Tryz.t255,_,by kernel_rfl,rfl,rfl,rfl,rfl⟩,Tryz.isAgg255,Tryz.sizeOf255,⟨_,Tryz.zeroValue255,rfl⟩,⟨_,Tryz.typeInfo255,rfl⟩⟩
instance hu255 : HasUnd Tryz.prog 255 := ⟨_,Tryz.runUnderlying255⟩
instance it255 : IntTy Tryz.prog 255 .i32 := ⟨Tryz.runUnderlying255,Tryz.underlying255⟩
instance ty256 : Ty Tryz.prog 256 true 11 [.int .u64 0,.int .u64 0,.int .u32 0,.int .u8 0,.int .u8 0,.int .u8 0,.int .u8 0,.nilFunc,.pointer none,.int .i32 0,.int .i32 0] 48 := ⟨⟨Tryz.t256,_,by kernel_rfl,rfl,rfl,rfl,rfl⟩,Tryz.isAgg256,Tryz.sizeOf256,⟨_,Tryz.zeroValue256,rfl⟩,⟨_,Tryz.typeInfo256,rfl⟩⟩
instance hu256 : HasUnd Tryz.prog 256 := ⟨_,Tryz.runUnderlying256⟩
instance ss256 : StTy Tryz.prog 256 [(0,1,false),(1,1,false),(2,1,false),(3,1,false),(4,1,false),(5,1,false),(6,1,false),(7,1,false),(8,1,false),(9,1,false),(10,1,false)] := ⟨_,Tryz.runUnderlying256,rfl,fun i off sz ag h => match i,h with
 | 0,h => by simp only [List.getElem?_cons_zero,List.getElem?_cons_succ,Option.some.injEq,Prod.mk.injEq] at h;obtain ⟨rfl,rfl,rfl⟩ := h;exact ⟨_,rfl,rfl,Tryz.sizeOf12,Tryz.isAgg12⟩
 | 1,h => by simp only [List.getElem?_cons_zero,List.getElem?_cons_succ,Option.some.injEq,Prod.mk.injEq] at h;obtain ⟨rfl,rfl,rfl⟩ := h;exact ⟨_,rfl,rfl,Tryz.sizeOf12,Tryz.isAgg12⟩
 | 2,h => by simp only [List.getElem?_cons_zero,List.getElem?_cons_succ,Option.some.injEq,Prod.mk.injEq] at h;obtain ⟨rfl,rfl,rfl⟩ := h;exact ⟨_,rfl,rfl,Tryz.sizeOf224,Tryz.isAgg224⟩
 | 3,h => by simp only [List.getElem?_cons_zero,List.getElem?_cons_succ,Option.some.injEq,Prod.mk.injEq] at h;obtain ⟨rfl,rfl,rfl⟩ := h;exact ⟨_,rfl,rfl,Tryz.sizeOf250,Tryz.isAgg250⟩
 | 4,h => by simp only [List.getElem?_cons_zero,List.getElem?_cons_succ,Option.some.injEq,Prod.mk.injEq] at h;obtain ⟨rfl,rfl,rfl⟩ := h;exact ⟨_,rfl,rfl,Tryz.sizeOf5,Tryz.isAgg5⟩
 | 5,h => by simp only [List.getElem?_cons_zero,List.getElem?_cons_succ,Option.some.injEq,Prod.mk.injEq] at h;obtain ⟨rfl,rfl,rfl⟩ := h;exact ⟨_,rfl,rfl,Tryz.sizeOf5,Tryz.isAgg5⟩
 | 6,h => by simp only [List.getElem?_cons_zero,List.getElem?_cons_succ,Option.some.injEq,Prod.mk.injEq] at h;obtain ⟨rfl,rfl,rfl⟩ := h;exact ⟨_,rfl,rfl,Tryz.sizeOf251,Tryz.isAgg251⟩
 | 7,h => by simp only [List.getElem?_cons_zero,List.getElem?_cons_succ,Option.some.injEq,Prod.mk.injEq] at h;obtain ⟨rfl,rfl,rfl⟩ := h;exact ⟨_,rfl,rfl,Tryz.sizeOf252,Tryz.isAgg252⟩
 | 8,h => by simp only [List.getElem?_cons_zero,List.getElem?_cons_succ,Option.some.injEq,Prod.mk.injEq] at h;obtain ⟨rfl,rfl,rfl⟩ := h;exact ⟨_,rfl,rfl,Tryz.sizeOf253,Tryz.isAgg253⟩
 | 9,h => by simp only [List.getElem?_cons_zero,List.getElem?_cons_succ,Option.some.injEq,Prod.mk.injEq] at h;obtain ⟨rfl,rfl,rfl⟩ := h;exact ⟨_,rfl,rfl,Tryz.sizeOf254,Tryz.isAgg254⟩
 | 10,h => by simp only [List.getElem?_cons_zero,List.getElem?_cons_succ,Option.some.injEq,Prod.mk.injEq] at h;obtain ⟨rfl,rfl,rfl⟩ := h;exact ⟨_,rfl,rfl,Tryz.sizeOf255,Tryz.isAgg255⟩
 | (i + 11),h => by simp at h⟩
instance ty257 : Ty Tryz.prog 257 true 11 [.int .u64 0,.int .u64 0,.int .u32 0,.int .u8 0,.int .u8 0,.int .u8 0,.int .u8 0,.nilFunc,.pointer none,.int .i32 0,.int .i32 0] 48 := ⟨⟨Tryz.t257,_,by kernel_rfl,rfl,rfl,rfl,rfl⟩,Tryz.isAgg257,Tryz.sizeOf257,⟨_,Tryz.zeroValue257,rfl⟩,⟨_,Tryz.typeInfo257,rfl⟩⟩
instance hu257 : HasUnd Tryz.prog 257 := ⟨_,Tryz.runUnderlying257⟩
instance ss257 : StTy Tryz.prog 257 [(0,1,false),(1,1,false),(2,1,false),(3,1,false),(4,1,false),(5,1,false),(6,1,false),(7,1,false),(8,1,false),(9,1,false),(10,1,false)] := ⟨_,Tryz.runUnderlying257,rfl,fun i off sz ag h => match i,h with
 | 0,h => by simp only [List.getElem?_cons_zero,List.getElem?_cons_succ,Option.some.injEq,Prod.mk.injEq] at h;obtain ⟨rfl,rfl,rfl⟩ := h;exact ⟨_,rfl,rfl,Tryz.sizeOf12,Tryz.isAgg12⟩
 | 1,h => by simp only [List.getElem?_cons_zero,List.getElem?_cons_succ,Option.some.injEq,Prod.mk.injEq] at h;obtain ⟨rfl,rfl,rfl⟩ := h;exact ⟨_,rfl,rfl,Tryz.sizeOf12,Tryz.isAgg12⟩
 | 2,h => by simp only [List.getElem?_cons_zero,List.getElem?_cons_succ,Option.some.injEq,Prod.mk.injEq] at h;obtain ⟨rfl,rfl,rfl⟩ := h;exact ⟨_,rfl,rfl,Tryz.sizeOf224,Tryz.isAgg224⟩
 | 3,h => by simp only [List.getElem?_cons_zero,List.getElem?_cons_succ,Option.some.injEq,Prod.mk.injEq] at h;obtain ⟨rfl,rfl,rfl⟩ := h;exact ⟨_,rfl,rfl,Tryz.sizeOf250,Tryz.isAgg250⟩
 | 4,h => by simp only [List.getElem?_cons_zero,List.getElem?_cons_succ,Option.some.injEq,Prod.mk.injEq] at h;obtain ⟨rfl,rfl,rfl⟩ := h;exact ⟨_,rfl,rfl,Tryz.sizeOf5,Tryz.isAgg5⟩
 | 5,h => by simp only [List.getElem?_cons_zero,List.getElem?_cons_succ,Option.some.injEq,Prod.mk.injEq] at h;obtain ⟨rfl,rfl,rfl⟩ := h;exact ⟨_,rfl,rfl,Tryz.sizeOf5,Tryz.isAgg5⟩
 | 6,h => by simp only [List.getElem?_cons_zero,List.getElem?_cons_succ,Option.some.injEq,Prod.mk.injEq] at h;obtain ⟨rfl,rfl,rfl⟩ := h;exact ⟨_,rfl,rfl,Tryz.sizeOf251,Tryz.isAgg251⟩
 | 7,h => by simp only [List.getElem?_cons_zero,List.getElem?_cons_succ,Option.some.injEq,Prod.mk.injEq] at h;obtain ⟨rfl,rfl,rfl⟩ := h;exact ⟨_,rfl,rfl,Tryz.sizeOf252,Tryz.isAgg252⟩
 | 8,h => by simp only [List.getElem?_cons_zero,List.getElem?_cons_succ,Option.some.injEq,Prod.mk.injEq] at h;obtain ⟨rfl,rfl,rfl⟩ := h;exact ⟨_,rfl,rfl,Tryz.sizeOf253,Tryz.isAgg253⟩
 | 9,h => by simp only [List.getElem?_cons_zero,List.getElem?_cons_succ,Option.some.injEq,Prod.mk.injEq] at h;obtain ⟨rfl,rfl,rfl⟩ := h;exact ⟨_,rfl,rfl,Tryz.sizeOf254,Tryz.isAgg254⟩
 | 10,h => by simp only [List.getElem?_cons_zero,List.getElem?_cons_succ,Option.some.injEq,Prod.mk.injEq] at h;obtain ⟨rfl,rfl,rfl⟩ := h;exact ⟨_,rfl,rfl,Tryz.sizeOf255,Tryz.isAgg255⟩
 | (i + 11),h => by simp at h⟩
instance ty258 : Ty Tryz.prog 258 false 1 [.pointer none] 8 := ⟨⟨Tryz.t258,_,by kernel_rfl,rfl,rfl,rfl,rfl⟩,Tryz.isAgg258,Tryz.sizeOf258,⟨_,Tryz.zeroValue258,rfl⟩,⟨_,Tryz.typeInfo258,rfl⟩⟩
instance hu258 : HasUnd Tryz.prog 258 := ⟨_,Tryz.runUnderlying258⟩
instance en3 : Enters Tryz.prog 3 := ⟨Tryz.call3⟩
instance en4 : Enters Tryz.prog 4 := ⟨Tryz.call4⟩
instance en5 : Enters Tryz.prog 5 := ⟨Tryz.call5⟩
instance en6 : Enters Tryz.prog 6 := ⟨Tryz.call6⟩
instance en7 : Enters Tryz.prog 7 := ⟨Tryz.call7⟩
instance en8 : Enters Tryz.prog 8 := ⟨Tryz.call8⟩
instance en9 : Enters Tryz.prog 9 := ⟨Tryz.call9⟩
instance en10 : Enters Tryz.prog 10 := ⟨Tryz.call10⟩
instance en11 : Enters Tryz.prog 11 := ⟨Tryz.call11⟩
instance en12 : Enters Tryz.prog 12 := ⟨Tryz.call12⟩
instance en13 : Enters Tryz.prog 13 := ⟨Tryz.call13⟩
instance en14 : Enters Tryz.prog 14 := ⟨Tryz.call14⟩
instance en15 : Enters Tryz.prog 15 := ⟨Tryz.call15⟩
instance en16 : Enters Tryz.prog 16 := ⟨Tryz.call16⟩
instance en17 : Enters Tryz.prog 17 := ⟨Tryz.call17⟩
instance en18 : Enters Tryz.prog 18 := ⟨Tryz.call18⟩
instance en19 : Enters Tryz.prog 19 := ⟨Tryz.call19⟩
instance en20 : Enters Tryz.prog 20 := ⟨Tryz.call20⟩
instance en21 : Enters Tryz.prog 21 := ⟨Tryz.call21⟩
instance en22 : Enters Tryz.prog 22 := ⟨Tryz.call22⟩
instance en23 : Enters Tryz.prog 23 := ⟨Tryz.call23⟩
instance en24 : Enters Tryz.prog 24 := ⟨Tryz.call24⟩
instance en25 : Enters Tryz.prog 25 := ⟨Tryz.call25⟩
instance en26 : Enters Tryz.prog 26 := ⟨Tryz.call26⟩
instance en27 : Enters Tryz.prog 27 := ⟨Tryz.call27⟩
instance en28 : Enters Tryz.prog 28 := ⟨Tryz.call28⟩
instance en29 : Enters Tryz.prog 29 := ⟨Tryz.call29⟩
instance en30 : Enters Tryz.prog 30 := ⟨Tryz.call30⟩
instance en31 : Enters Tryz.prog 31 := ⟨Tryz.call31⟩
instance en32 : Enters Tryz.prog 32 := ⟨Tryz.call32⟩
instance en33 : Enters Tryz.prog 33 := ⟨Tryz.call33⟩
instance en34 : Enters Tryz.prog 34 := ⟨Tryz.call34⟩
instance en35 : Enters Tryz.prog 35 := ⟨Tryz.call35⟩
instance en36 : Enters Tryz.prog 36 := ⟨Tryz.call36⟩
instance en37 : Enters Tryz.prog 37 := ⟨Tryz.call37⟩
instance en38 : Enters Tryz.prog 38 := ⟨Tryz.call38⟩
instance en39 : Enters Tryz.prog 39 := ⟨Tryz.call39⟩
instance en40 : Enters Tryz.prog 40 := ⟨Tryz.call40⟩
instance en41 : Enters Tryz.prog 41 := ⟨Tryz.call41⟩
instance en42 : Enters Tryz.prog 42 := ⟨Tryz.call42⟩
instance en43 : Enters Tryz.prog 43 := ⟨Tryz.call43⟩
instance en44 : Enters Tryz.prog 44 := ⟨Tryz.call44⟩
instance en45 : Enters Tryz.prog 45 := ⟨Tryz.call45⟩
instance en46 : Enters Tryz.prog 46 := ⟨Tryz.call46⟩
instance en47 : Enters Tryz.prog 47 := ⟨Tryz.call47⟩
instance en48 : Enters Tryz.prog 48 := ⟨Tryz.call48⟩
instance en49 : Enters Tryz.prog 49 := ⟨Tryz.call49⟩
instance en50 : Enters Tryz.prog 50 := ⟨Tryz.call50⟩
instance en51 : Enters Tryz.prog 51 := ⟨Tryz.call51⟩
instance en52 : Enters Tryz.prog 52 := ⟨Tryz.call52⟩
instance en53 : Enters Tryz.prog 53 := ⟨Tryz.call53⟩
instance en54 : Enters Tryz.prog 54 := ⟨Tryz.call54⟩
instance en55 : Enters Tryz.prog 55 := ⟨Tryz.call55⟩
instance en56 : Enters Tryz.prog 56 := ⟨Tryz.call56⟩
instance en57 : Enters Tryz.prog 57 := ⟨Tryz.call57⟩
instance en58 : Enters Tryz.prog 58 := ⟨Tryz.call58⟩
instance en59 : Enters Tryz.prog 59 := ⟨Tryz.call59⟩
instance en60 : Enters Tryz.prog 60 := ⟨Tryz.call60⟩
instance en61 : Enters Tryz.prog 61 := ⟨Tryz.call61⟩
instance en62 : Enters Tryz.prog 62 := ⟨Tryz.call62⟩
instance en63 : Enters Tryz.prog 63 := ⟨Tryz.call63⟩
instance en64 : Enters Tryz.prog 64 := ⟨Tryz.call64⟩
instance en65 : Enters Tryz.prog 65 := ⟨Tryz.call65⟩
instance en66 : Enters Tryz.prog 66 := ⟨Tryz.call66⟩
instance en67 : Enters Tryz.prog 67 := ⟨Tryz.call67⟩
instance en68 : Enters Tryz.prog 68 := ⟨Tryz.call68⟩
instance en69 : Enters Tryz.prog 69 := ⟨Tryz.call69⟩
instance en70 : Enters Tryz.prog 70 := ⟨Tryz.call70⟩
instance en71 : Enters Tryz.prog 71 := ⟨Tryz.call71⟩
instance en72 : Enters Tryz.prog 72 := ⟨Tryz.call72⟩
instance en73 : Enters Tryz.prog 73 := ⟨Tryz.call73⟩
instance en74 : Enters Tryz.prog 74 := ⟨Tryz.call74⟩
instance en75 : Enters Tryz.prog 75 := ⟨Tryz.call75⟩
instance en76 : Enters Tryz.prog 76 := ⟨Tryz.call76⟩
instance en77 : Enters Tryz.prog 77 := ⟨Tryz.call77⟩
instance en78 : Enters Tryz.prog 78 := ⟨Tryz.call78⟩
instance en79 : Enters Tryz.prog 79 := ⟨Tryz.call79⟩
instance en80 : Enters Tryz.prog 80 := ⟨Tryz.call80⟩
instance en81 : Enters Tryz.prog 81 := ⟨Tryz.call81⟩
instance en82 : Enters Tryz.prog 82 := ⟨Tryz.call82⟩
instance en83 : Enters Tryz.prog 83 := ⟨Tryz.call83⟩
instance en84 : Enters Tryz.prog 84 := ⟨Tryz.call84⟩
instance en85 : Enters Tryz.prog 85 := ⟨Tryz.call85⟩
instance en86 : Enters Tryz.prog 86 := ⟨Tryz.call86⟩
instance en87 : Enters Tryz.prog 87 := ⟨Tryz.call87⟩
instance en88 : Enters Tryz.prog 88 := ⟨Tryz.call88⟩
instance en89 : Enters Tryz.prog 89 := ⟨Tryz.call89⟩
instance en90 : Enters Tryz.prog 90 := ⟨Tryz.call90⟩
instance en91 : Enters Tryz.prog 91 := ⟨Tryz.call91⟩
instance en92 : Enters Tryz.prog 92 := ⟨Tryz.call92⟩
instance en93 : Enters Tryz.prog 93 := ⟨Tryz.call93⟩
instance en94 : Enters Tryz.prog 94 := ⟨Tryz.call94⟩
instance en95 : Enters Tryz.prog 95 := ⟨Tryz.call95⟩
instance en96 : Enters Tryz.prog 96 := ⟨Tryz.call96⟩
instance en97 : Enters Tryz.prog 97 := ⟨Tryz.call97⟩
instance en98 : Enters Tryz.prog 98 := ⟨Tryz.call98⟩
instance en99 : Enters Tryz.prog 99 := ⟨Tryz.call99⟩
instance en100 : Enters Tryz.prog 100 := ⟨Tryz.call100⟩
instance en101 : Enters Tryz.prog 101 := ⟨Tryz.call101⟩
instance en102 : Enters Tryz.prog 102 := ⟨Tryz.call102⟩
instance en103 : Enters Tryz.prog 103 := ⟨Tryz.call103⟩
instance en104 : Enters Tryz.prog 104 := ⟨Tryz.call104⟩
instance en105 : Enters Tryz.prog 105 := ⟨Tryz.call105⟩
instance en106 : Enters Tryz.prog 106 := ⟨Tryz.call106⟩
instance en107 : Enters Tryz.prog 107 := ⟨Tryz.call107⟩
instance en108 : Enters Tryz.prog 108 := ⟨Tryz.call108⟩
instance en109 : Enters Tryz.prog 109 := ⟨Tryz.call109⟩
instance en110 : Enters Tryz.prog 110 := ⟨Tryz.call110⟩
instance en111 : Enters Tryz.prog 111 := ⟨Tryz.call111⟩
instance en112 : Enters Tryz.prog 112 := ⟨Tryz.call112⟩
instance en113 : Enters Tryz.prog 113 := ⟨Tryz.call113⟩
instance en114 : Enters Tryz.prog 114 := ⟨Tryz.call114⟩
instance en115 : Enters Tryz.prog 115 := ⟨Tryz.call115⟩
instance en116 : Enters Tryz.prog 116 := ⟨Tryz.call116⟩
instance en117 : Enters Tryz.prog 117 := ⟨Tryz.call117⟩
instance en118 : Enters Tryz.prog 118 := ⟨Tryz.call118⟩
instance en119 : Enters Tryz.prog 119 := ⟨Tryz.call119⟩
instance en120 : Enters Tryz.prog 120 := ⟨Tryz.call120⟩
instance en121 : Enters Tryz.prog 121 := ⟨Tryz.call121⟩
instance en122 : Enters Tryz.prog 122 := ⟨Tryz.call122⟩
instance en123 : Enters Tryz.prog 123 := ⟨Tryz.call123⟩
instance en124 : Enters Tryz.prog 124 := ⟨Tryz.call124⟩
instance en125 : Enters Tryz.prog 125 := ⟨Tryz.call125⟩
instance en126 : Enters Tryz.prog 126 := ⟨Tryz.call126⟩
instance en127 : Enters Tryz.prog 127 := ⟨Tryz.call127⟩
instance en128 : Enters Tryz.prog 128 := ⟨Tryz.call128⟩
instance en129 : Enters Tryz.prog 129 := ⟨Tryz.call129⟩
instance en130 : Enters Tryz.prog 130 := ⟨Tryz.call130⟩
instance en131 : Enters Tryz.prog 131 := ⟨Tryz.call131⟩
instance en132 : Enters Tryz.prog 132 := ⟨Tryz.call132⟩
instance en133 : Enters Tryz.prog 133 := ⟨Tryz.call133⟩
instance en134 : Enters Tryz.prog 134 := ⟨Tryz.call134⟩
instance en135 : Enters Tryz.prog 135 := ⟨Tryz.call135⟩
instance en136 : Enters Tryz.prog 136 := ⟨Tryz.call136⟩
instance en137 : Enters Tryz.prog 137 := ⟨Tryz.call137⟩
instance en138 : Enters Tryz.prog 138 := ⟨Tryz.call138⟩
instance en139 : Enters Tryz.prog 139 := ⟨Tryz.call139⟩
instance en141 : Enters Tryz.prog 141 := ⟨Tryz.call141⟩
instance en142 : Enters Tryz.prog 142 := ⟨Tryz.call142⟩
instance en143 : Enters Tryz.prog 143 := ⟨Tryz.call143⟩
instance en144 : Enters Tryz.prog 144 := ⟨Tryz.call144⟩
instance en145 : Enters Tryz.prog 145 := ⟨Tryz.call145⟩
instance en146 : Enters Tryz.prog 146 := ⟨Tryz.call146⟩
instance en147 : Enters Tryz.prog 147 := ⟨Tryz.call147⟩
instance en148 : Enters Tryz.prog 148 := ⟨Tryz.call148⟩
instance en149 : Enters Tryz.prog 149 := ⟨Tryz.call149⟩
instance en150 : Enters Tryz.prog 150 := ⟨Tryz.call150⟩
instance en151 : Enters Tryz.prog 151 := ⟨Tryz.call151⟩
instance en152 : Enters Tryz.prog 152 := ⟨Tryz.call152⟩
instance en153 : Enters Tryz.prog 153 := ⟨Tryz.call153⟩
instance en154 : Enters Tryz.prog 154 := ⟨Tryz.call154⟩
instance en155 : Enters Tryz.prog 155 := ⟨Tryz.call155⟩
instance en156 : Enters Tryz.prog 156 := ⟨Tryz.call156⟩
instance en157 : Enters Tryz.prog 157 := ⟨Tryz.call157⟩
instance en158 : Enters Tryz.prog 158 := ⟨Tryz.call158⟩
instance en159 : Enters Tryz.prog 159 := ⟨Tryz.call159⟩
instance en160 : Enters Tryz.prog 160 := ⟨Tryz.call160⟩
instance en161 : Enters Tryz.prog 161 := ⟨Tryz.call161⟩
instance en162 : Enters Tryz.prog 162 := ⟨Tryz.call162⟩
instance en163 : Enters Tryz.prog 163 := ⟨Tryz.call163⟩
instance en164 : Enters Tryz.prog 164 := ⟨Tryz.call164⟩
instance en165 : Enters Tryz.prog 165 := ⟨Tryz.call165⟩
instance en166 : Enters Tryz.prog 166 := ⟨Tryz.call166⟩
instance en167 : Enters Tryz.prog 167 := ⟨Tryz.call167⟩
instance en168 : Enters Tryz.prog 168 := ⟨Tryz.call168⟩
instance en169 : Enters Tryz.prog 169 := ⟨Tryz.call169⟩
instance en170 : Enters Tryz.prog 170 := ⟨Tryz.call170⟩
instance en171 : Enters Tryz.prog 171 := ⟨Tryz.call171⟩
instance en172 : Enters Tryz.prog 172 := ⟨Tryz.call172⟩
instance en173 : Enters Tryz.prog 173 := ⟨Tryz.call173⟩
instance en174 : Enters Tryz.prog 174 := ⟨Tryz.call174⟩
instance en175 : Enters Tryz.prog 175 := ⟨Tryz.call175⟩
instance en176 : Enters Tryz.prog 176 := ⟨Tryz.call176⟩
instance en177 : Enters Tryz.prog 177 := ⟨Tryz.call177⟩
instance en197 : Enters Tryz.prog 197 := ⟨Tryz.call197⟩
end Go.Proofs.YtiampehfpgcogaaGreatDoor
