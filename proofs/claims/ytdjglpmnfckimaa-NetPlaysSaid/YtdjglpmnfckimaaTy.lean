/- Facts on the types of the program, one by one. No condition. By a program (wip/gen/gsa.py). -/
import Derived.Test.YtdjglpmnfckimaaProg
import Derived.Test.YtdjglpmnfckimaaSxE
import Derived.KernelRfl
namespace Go.Proofs.Ytdjglpmnfckimaa
open Go Go.SX
instance hu0 : HasUnd Try.prog 0 := ⟨_, Try.runUnderlying0⟩
instance ty1 : Ty Try.prog 1 false 1 [.nilFunc] 8 := ⟨⟨Try.t1, _, by kernel_rfl, rfl, rfl, rfl, rfl⟩, Try.isAgg1, Try.sizeOf1, ⟨_, Try.zeroValue1, rfl⟩, ⟨_, Try.typeInfo1, rfl⟩⟩
instance hu1 : HasUnd Try.prog 1 := ⟨_, Try.runUnderlying1⟩
instance ty2 : Ty Try.prog 2 false 1 [.int .i64 0] 8 := ⟨⟨Try.t2, _, by kernel_rfl, rfl, rfl, rfl, rfl⟩, Try.isAgg2, Try.sizeOf2, ⟨_, Try.zeroValue2, rfl⟩, ⟨_, Try.typeInfo2, rfl⟩⟩
instance hu2 : HasUnd Try.prog 2 := ⟨_, Try.runUnderlying2⟩
instance it2 : IntTy Try.prog 2 .i64 := ⟨Try.runUnderlying2, Try.underlying2⟩
instance ty3 : Ty Try.prog 3 false 1 [.int .i64 0] 8 := ⟨⟨Try.t3, _, by kernel_rfl, rfl, rfl, rfl, rfl⟩, Try.isAgg3, Try.sizeOf3, ⟨_, Try.zeroValue3, rfl⟩, ⟨_, Try.typeInfo3, rfl⟩⟩
instance hu3 : HasUnd Try.prog 3 := ⟨_, Try.runUnderlying3⟩
instance it3 : IntTy Try.prog 3 .i64 := ⟨Try.runUnderlying3, Try.underlying3⟩
instance ty4 : Ty Try.prog 4 false 1 [.bool false] 1 := ⟨⟨Try.t4, _, by kernel_rfl, rfl, rfl, rfl, rfl⟩, Try.isAgg4, Try.sizeOf4, ⟨_, Try.zeroValue4, rfl⟩, ⟨_, Try.typeInfo4, rfl⟩⟩
instance hu4 : HasUnd Try.prog 4 := ⟨_, Try.runUnderlying4⟩
instance bt4 : BoolTy Try.prog 4 := ⟨Try.underlying4⟩
instance ty5 : Ty Try.prog 5 false 1 [.int .u8 0] 1 := ⟨⟨Try.t5, _, by kernel_rfl, rfl, rfl, rfl, rfl⟩, Try.isAgg5, Try.sizeOf5, ⟨_, Try.zeroValue5, rfl⟩, ⟨_, Try.typeInfo5, rfl⟩⟩
instance hu5 : HasUnd Try.prog 5 := ⟨_, Try.runUnderlying5⟩
instance it5 : IntTy Try.prog 5 .u8 := ⟨Try.runUnderlying5, Try.underlying5⟩
instance ty6 : Ty Try.prog 6 false 1 [.int .u8 0] 1 := ⟨⟨Try.t6, _, by kernel_rfl, rfl, rfl, rfl, rfl⟩, Try.isAgg6, Try.sizeOf6, ⟨_, Try.zeroValue6, rfl⟩, ⟨_, Try.typeInfo6, rfl⟩⟩
instance hu6 : HasUnd Try.prog 6 := ⟨_, Try.runUnderlying6⟩
instance it6 : IntTy Try.prog 6 .u8 := ⟨Try.runUnderlying6, Try.underlying6⟩
instance ty7 : Ty Try.prog 7 true 4 [.int .i64 0, .int .i64 0, .bool false, .int .u8 0] 24 := ⟨⟨Try.t7, _, by kernel_rfl, rfl, rfl, rfl, rfl⟩, Try.isAgg7, Try.sizeOf7, ⟨_, Try.zeroValue7, rfl⟩, ⟨_, Try.typeInfo7, rfl⟩⟩
instance hu7 : HasUnd Try.prog 7 := ⟨_, Try.runUnderlying7⟩
instance ss7 : StTy Try.prog 7 [(0, 1, false), (1, 1, false), (2, 1, false), (3, 1, false)] := ⟨_, Try.runUnderlying7, rfl, fun i off sz ag h => match i, h with
  | 0, h => by simp only [List.getElem?_cons_zero, List.getElem?_cons_succ, Option.some.injEq, Prod.mk.injEq] at h; obtain ⟨rfl, rfl, rfl⟩ := h; exact ⟨_, rfl, rfl, Try.sizeOf2, Try.isAgg2⟩
  | 1, h => by simp only [List.getElem?_cons_zero, List.getElem?_cons_succ, Option.some.injEq, Prod.mk.injEq] at h; obtain ⟨rfl, rfl, rfl⟩ := h; exact ⟨_, rfl, rfl, Try.sizeOf3, Try.isAgg3⟩
  | 2, h => by simp only [List.getElem?_cons_zero, List.getElem?_cons_succ, Option.some.injEq, Prod.mk.injEq] at h; obtain ⟨rfl, rfl, rfl⟩ := h; exact ⟨_, rfl, rfl, Try.sizeOf4, Try.isAgg4⟩
  | 3, h => by simp only [List.getElem?_cons_zero, List.getElem?_cons_succ, Option.some.injEq, Prod.mk.injEq] at h; obtain ⟨rfl, rfl, rfl⟩ := h; exact ⟨_, rfl, rfl, Try.sizeOf6, Try.isAgg6⟩
  | (i + 4), h => by simp at h⟩
instance ty8 : Ty Try.prog 8 true 4 [.int .i64 0, .int .i64 0, .bool false, .int .u8 0] 24 := ⟨⟨Try.t8, _, by kernel_rfl, rfl, rfl, rfl, rfl⟩, Try.isAgg8, Try.sizeOf8, ⟨_, Try.zeroValue8, rfl⟩, ⟨_, Try.typeInfo8, rfl⟩⟩
instance hu8 : HasUnd Try.prog 8 := ⟨_, Try.runUnderlying8⟩
instance ss8 : StTy Try.prog 8 [(0, 1, false), (1, 1, false), (2, 1, false), (3, 1, false)] := ⟨_, Try.runUnderlying8, rfl, fun i off sz ag h => match i, h with
  | 0, h => by simp only [List.getElem?_cons_zero, List.getElem?_cons_succ, Option.some.injEq, Prod.mk.injEq] at h; obtain ⟨rfl, rfl, rfl⟩ := h; exact ⟨_, rfl, rfl, Try.sizeOf2, Try.isAgg2⟩
  | 1, h => by simp only [List.getElem?_cons_zero, List.getElem?_cons_succ, Option.some.injEq, Prod.mk.injEq] at h; obtain ⟨rfl, rfl, rfl⟩ := h; exact ⟨_, rfl, rfl, Try.sizeOf3, Try.isAgg3⟩
  | 2, h => by simp only [List.getElem?_cons_zero, List.getElem?_cons_succ, Option.some.injEq, Prod.mk.injEq] at h; obtain ⟨rfl, rfl, rfl⟩ := h; exact ⟨_, rfl, rfl, Try.sizeOf4, Try.isAgg4⟩
  | 3, h => by simp only [List.getElem?_cons_zero, List.getElem?_cons_succ, Option.some.injEq, Prod.mk.injEq] at h; obtain ⟨rfl, rfl, rfl⟩ := h; exact ⟨_, rfl, rfl, Try.sizeOf6, Try.isAgg6⟩
  | (i + 4), h => by simp at h⟩
instance ty9 : Ty Try.prog 9 false 1 [.string ⟨#[]⟩] 16 := ⟨⟨Try.t9, _, by kernel_rfl, rfl, rfl, rfl, rfl⟩, Try.isAgg9, Try.sizeOf9, ⟨_, Try.zeroValue9, rfl⟩, ⟨_, Try.typeInfo9, rfl⟩⟩
instance hu9 : HasUnd Try.prog 9 := ⟨_, Try.runUnderlying9⟩
instance st9 : StrTy Try.prog 9 := ⟨Try.runUnderlying9, Try.underlying9⟩
instance ty10 : Ty Try.prog 10 false 1 [.string ⟨#[]⟩] 16 := ⟨⟨Try.t10, _, by kernel_rfl, rfl, rfl, rfl, rfl⟩, Try.isAgg10, Try.sizeOf10, ⟨_, Try.zeroValue10, rfl⟩, ⟨_, Try.typeInfo10, rfl⟩⟩
instance hu10 : HasUnd Try.prog 10 := ⟨_, Try.runUnderlying10⟩
instance st10 : StrTy Try.prog 10 := ⟨Try.runUnderlying10, Try.underlying10⟩
instance ty11 : Ty Try.prog 11 false 1 [.string ⟨#[]⟩] 16 := ⟨⟨Try.t11, _, by kernel_rfl, rfl, rfl, rfl, rfl⟩, Try.isAgg11, Try.sizeOf11, ⟨_, Try.zeroValue11, rfl⟩, ⟨_, Try.typeInfo11, rfl⟩⟩
instance hu11 : HasUnd Try.prog 11 := ⟨_, Try.runUnderlying11⟩
instance st11 : StrTy Try.prog 11 := ⟨Try.runUnderlying11, Try.underlying11⟩
instance ty12 : Ty Try.prog 12 false 1 [.int .u64 0] 8 := ⟨⟨Try.t12, _, by kernel_rfl, rfl, rfl, rfl, rfl⟩, Try.isAgg12, Try.sizeOf12, ⟨_, Try.zeroValue12, rfl⟩, ⟨_, Try.typeInfo12, rfl⟩⟩
instance hu12 : HasUnd Try.prog 12 := ⟨_, Try.runUnderlying12⟩
instance it12 : IntTy Try.prog 12 .u64 := ⟨Try.runUnderlying12, Try.underlying12⟩
instance ty13 : Ty Try.prog 13 true 2 [.string ⟨#[]⟩, .int .u64 0] 24 := ⟨⟨Try.t13, _, by kernel_rfl, rfl, rfl, rfl, rfl⟩, Try.isAgg13, Try.sizeOf13, ⟨_, Try.zeroValue13, rfl⟩, ⟨_, Try.typeInfo13, rfl⟩⟩
instance hu13 : HasUnd Try.prog 13 := ⟨_, Try.runUnderlying13⟩
instance ss13 : StTy Try.prog 13 [(0, 1, false), (1, 1, false)] := ⟨_, Try.runUnderlying13, rfl, fun i off sz ag h => match i, h with
  | 0, h => by simp only [List.getElem?_cons_zero, List.getElem?_cons_succ, Option.some.injEq, Prod.mk.injEq] at h; obtain ⟨rfl, rfl, rfl⟩ := h; exact ⟨_, rfl, rfl, Try.sizeOf9, Try.isAgg9⟩
  | 1, h => by simp only [List.getElem?_cons_zero, List.getElem?_cons_succ, Option.some.injEq, Prod.mk.injEq] at h; obtain ⟨rfl, rfl, rfl⟩ := h; exact ⟨_, rfl, rfl, Try.sizeOf12, Try.isAgg12⟩
  | (i + 2), h => by simp at h⟩
instance ty14 : Ty Try.prog 14 true 2 [.string ⟨#[]⟩, .int .u64 0] 24 := ⟨⟨Try.t14, _, by kernel_rfl, rfl, rfl, rfl, rfl⟩, Try.isAgg14, Try.sizeOf14, ⟨_, Try.zeroValue14, rfl⟩, ⟨_, Try.typeInfo14, rfl⟩⟩
instance hu14 : HasUnd Try.prog 14 := ⟨_, Try.runUnderlying14⟩
instance ss14 : StTy Try.prog 14 [(0, 1, false), (1, 1, false)] := ⟨_, Try.runUnderlying14, rfl, fun i off sz ag h => match i, h with
  | 0, h => by simp only [List.getElem?_cons_zero, List.getElem?_cons_succ, Option.some.injEq, Prod.mk.injEq] at h; obtain ⟨rfl, rfl, rfl⟩ := h; exact ⟨_, rfl, rfl, Try.sizeOf9, Try.isAgg9⟩
  | 1, h => by simp only [List.getElem?_cons_zero, List.getElem?_cons_succ, Option.some.injEq, Prod.mk.injEq] at h; obtain ⟨rfl, rfl, rfl⟩ := h; exact ⟨_, rfl, rfl, Try.sizeOf12, Try.isAgg12⟩
  | (i + 2), h => by simp at h⟩
instance ty15 : Ty Try.prog 15 false 1 [.pointer none] 8 := ⟨⟨Try.t15, _, by kernel_rfl, rfl, rfl, rfl, rfl⟩, Try.isAgg15, Try.sizeOf15, ⟨_, Try.zeroValue15, rfl⟩, ⟨_, Try.typeInfo15, rfl⟩⟩
instance hu15 : HasUnd Try.prog 15 := ⟨_, Try.runUnderlying15⟩
instance pt15 : PtrTy Try.prog 15 77 := ⟨Try.runUnderlying15, Try.underlying15⟩
instance ty16 : Ty Try.prog 16 false 1 [.pointer none] 8 := ⟨⟨Try.t16, _, by kernel_rfl, rfl, rfl, rfl, rfl⟩, Try.isAgg16, Try.sizeOf16, ⟨_, Try.zeroValue16, rfl⟩, ⟨_, Try.typeInfo16, rfl⟩⟩
instance hu16 : HasUnd Try.prog 16 := ⟨_, Try.runUnderlying16⟩
instance pt16 : PtrTy Try.prog 16 80 := ⟨Try.runUnderlying16, Try.underlying16⟩
instance ty17 : Ty Try.prog 17 false 1 [.pointer none] 8 := ⟨⟨Try.t17, _, by kernel_rfl, rfl, rfl, rfl, rfl⟩, Try.isAgg17, Try.sizeOf17, ⟨_, Try.zeroValue17, rfl⟩, ⟨_, Try.typeInfo17, rfl⟩⟩
instance hu17 : HasUnd Try.prog 17 := ⟨_, Try.runUnderlying17⟩
instance pt17 : PtrTy Try.prog 17 89 := ⟨Try.runUnderlying17, Try.underlying17⟩
instance ty18 : Ty Try.prog 18 true 1 [.pointer none] 8 := ⟨⟨Try.t18, _, by kernel_rfl, rfl, rfl, rfl, rfl⟩, Try.isAgg18, Try.sizeOf18, ⟨_, Try.zeroValue18, rfl⟩, ⟨_, Try.typeInfo18, rfl⟩⟩
instance hu18 : HasUnd Try.prog 18 := ⟨_, Try.runUnderlying18⟩
instance ss18 : StTy Try.prog 18 [(0, 1, false)] := ⟨_, Try.runUnderlying18, rfl, fun i off sz ag h => match i, h with
  | 0, h => by simp only [List.getElem?_cons_zero, List.getElem?_cons_succ, Option.some.injEq, Prod.mk.injEq] at h; obtain ⟨rfl, rfl, rfl⟩ := h; exact ⟨_, rfl, rfl, Try.sizeOf17, Try.isAgg17⟩
  | (i + 1), h => by simp at h⟩
instance ty19 : Ty Try.prog 19 true 1 [.pointer none] 8 := ⟨⟨Try.t19, _, by kernel_rfl, rfl, rfl, rfl, rfl⟩, Try.isAgg19, Try.sizeOf19, ⟨_, Try.zeroValue19, rfl⟩, ⟨_, Try.typeInfo19, rfl⟩⟩
instance hu19 : HasUnd Try.prog 19 := ⟨_, Try.runUnderlying19⟩
instance ss19 : StTy Try.prog 19 [(0, 1, false)] := ⟨_, Try.runUnderlying19, rfl, fun i off sz ag h => match i, h with
  | 0, h => by simp only [List.getElem?_cons_zero, List.getElem?_cons_succ, Option.some.injEq, Prod.mk.injEq] at h; obtain ⟨rfl, rfl, rfl⟩ := h; exact ⟨_, rfl, rfl, Try.sizeOf17, Try.isAgg17⟩
  | (i + 1), h => by simp at h⟩
instance ty20 : Ty Try.prog 20 false 1 [.nilIface] 16 := ⟨⟨Try.t20, _, by kernel_rfl, rfl, rfl, rfl, rfl⟩, Try.isAgg20, Try.sizeOf20, ⟨_, Try.zeroValue20, rfl⟩, ⟨_, Try.typeInfo20, rfl⟩⟩
instance hu20 : HasUnd Try.prog 20 := ⟨_, Try.runUnderlying20⟩
instance ty21 : Ty Try.prog 21 false 1 [.int .i32 0] 4 := ⟨⟨Try.t21, _, by kernel_rfl, rfl, rfl, rfl, rfl⟩, Try.isAgg21, Try.sizeOf21, ⟨_, Try.zeroValue21, rfl⟩, ⟨_, Try.typeInfo21, rfl⟩⟩
instance hu21 : HasUnd Try.prog 21 := ⟨_, Try.runUnderlying21⟩
instance it21 : IntTy Try.prog 21 .i32 := ⟨Try.runUnderlying21, Try.underlying21⟩
instance ty22 : Ty Try.prog 22 false 1 [.slice none 0 0] 24 := ⟨⟨Try.t22, _, by kernel_rfl, rfl, rfl, rfl, rfl⟩, Try.isAgg22, Try.sizeOf22, ⟨_, Try.zeroValue22, rfl⟩, ⟨_, Try.typeInfo22, rfl⟩⟩
instance hu22 : HasUnd Try.prog 22 := ⟨_, Try.runUnderlying22⟩
instance sl22 : SlTy Try.prog 22 31 := ⟨Try.runUnderlying22, Try.underlying22⟩
instance ty23 : Ty Try.prog 23 false 1 [.slice none 0 0] 24 := ⟨⟨Try.t23, _, by kernel_rfl, rfl, rfl, rfl, rfl⟩, Try.isAgg23, Try.sizeOf23, ⟨_, Try.zeroValue23, rfl⟩, ⟨_, Try.typeInfo23, rfl⟩⟩
instance hu23 : HasUnd Try.prog 23 := ⟨_, Try.runUnderlying23⟩
instance sl23 : SlTy Try.prog 23 5 := ⟨Try.runUnderlying23, Try.underlying23⟩
instance ty24 : Ty Try.prog 24 false 1 [.nilFunc] 8 := ⟨⟨Try.t24, _, by kernel_rfl, rfl, rfl, rfl, rfl⟩, Try.isAgg24, Try.sizeOf24, ⟨_, Try.zeroValue24, rfl⟩, ⟨_, Try.typeInfo24, rfl⟩⟩
instance hu24 : HasUnd Try.prog 24 := ⟨_, Try.runUnderlying24⟩
instance ty25 : Ty Try.prog 25 false 1 [.pointer none] 8 := ⟨⟨Try.t25, _, by kernel_rfl, rfl, rfl, rfl, rfl⟩, Try.isAgg25, Try.sizeOf25, ⟨_, Try.zeroValue25, rfl⟩, ⟨_, Try.typeInfo25, rfl⟩⟩
instance hu25 : HasUnd Try.prog 25 := ⟨_, Try.runUnderlying25⟩
instance pt25 : PtrTy Try.prog 25 68 := ⟨Try.runUnderlying25, Try.underlying25⟩
instance ty26 : Ty Try.prog 26 false 1 [.int .i64 0] 8 := ⟨⟨Try.t26, _, by kernel_rfl, rfl, rfl, rfl, rfl⟩, Try.isAgg26, Try.sizeOf26, ⟨_, Try.zeroValue26, rfl⟩, ⟨_, Try.typeInfo26, rfl⟩⟩
instance hu26 : HasUnd Try.prog 26 := ⟨_, Try.runUnderlying26⟩
instance it26 : IntTy Try.prog 26 .i64 := ⟨Try.runUnderlying26, Try.underlying26⟩
instance hu27 : HasUnd Try.prog 27 := ⟨_, Try.runUnderlying27⟩
instance ty28 : Ty Try.prog 28 false 1 [.nilFunc] 8 := ⟨⟨Try.t28, _, by kernel_rfl, rfl, rfl, rfl, rfl⟩, Try.isAgg28, Try.sizeOf28, ⟨_, Try.zeroValue28, rfl⟩, ⟨_, Try.typeInfo28, rfl⟩⟩
instance hu28 : HasUnd Try.prog 28 := ⟨_, Try.runUnderlying28⟩
instance ty29 : Ty Try.prog 29 false 1 [.nilFunc] 8 := ⟨⟨Try.t29, _, by kernel_rfl, rfl, rfl, rfl, rfl⟩, Try.isAgg29, Try.sizeOf29, ⟨_, Try.zeroValue29, rfl⟩, ⟨_, Try.typeInfo29, rfl⟩⟩
instance hu29 : HasUnd Try.prog 29 := ⟨_, Try.runUnderlying29⟩
instance ty30 : Ty Try.prog 30 true 3 [.int .i64 0, .int .i64 0, .slice none 0 0] 40 := ⟨⟨Try.t30, _, by kernel_rfl, rfl, rfl, rfl, rfl⟩, Try.isAgg30, Try.sizeOf30, ⟨_, Try.zeroValue30, rfl⟩, ⟨_, Try.typeInfo30, rfl⟩⟩
instance hu30 : HasUnd Try.prog 30 := ⟨_, Try.runUnderlying30⟩
instance ss30 : StTy Try.prog 30 [(0, 1, false), (1, 1, false), (2, 1, false)] := ⟨_, Try.runUnderlying30, rfl, fun i off sz ag h => match i, h with
  | 0, h => by simp only [List.getElem?_cons_zero, List.getElem?_cons_succ, Option.some.injEq, Prod.mk.injEq] at h; obtain ⟨rfl, rfl, rfl⟩ := h; exact ⟨_, rfl, rfl, Try.sizeOf3, Try.isAgg3⟩
  | 1, h => by simp only [List.getElem?_cons_zero, List.getElem?_cons_succ, Option.some.injEq, Prod.mk.injEq] at h; obtain ⟨rfl, rfl, rfl⟩ := h; exact ⟨_, rfl, rfl, Try.sizeOf3, Try.isAgg3⟩
  | 2, h => by simp only [List.getElem?_cons_zero, List.getElem?_cons_succ, Option.some.injEq, Prod.mk.injEq] at h; obtain ⟨rfl, rfl, rfl⟩ := h; exact ⟨_, rfl, rfl, Try.sizeOf23, Try.isAgg23⟩
  | (i + 3), h => by simp at h⟩
instance ty31 : Ty Try.prog 31 true 3 [.int .i64 0, .int .i64 0, .slice none 0 0] 40 := ⟨⟨Try.t31, _, by kernel_rfl, rfl, rfl, rfl, rfl⟩, Try.isAgg31, Try.sizeOf31, ⟨_, Try.zeroValue31, rfl⟩, ⟨_, Try.typeInfo31, rfl⟩⟩
instance hu31 : HasUnd Try.prog 31 := ⟨_, Try.runUnderlying31⟩
instance ss31 : StTy Try.prog 31 [(0, 1, false), (1, 1, false), (2, 1, false)] := ⟨_, Try.runUnderlying31, rfl, fun i off sz ag h => match i, h with
  | 0, h => by simp only [List.getElem?_cons_zero, List.getElem?_cons_succ, Option.some.injEq, Prod.mk.injEq] at h; obtain ⟨rfl, rfl, rfl⟩ := h; exact ⟨_, rfl, rfl, Try.sizeOf3, Try.isAgg3⟩
  | 1, h => by simp only [List.getElem?_cons_zero, List.getElem?_cons_succ, Option.some.injEq, Prod.mk.injEq] at h; obtain ⟨rfl, rfl, rfl⟩ := h; exact ⟨_, rfl, rfl, Try.sizeOf3, Try.isAgg3⟩
  | 2, h => by simp only [List.getElem?_cons_zero, List.getElem?_cons_succ, Option.some.injEq, Prod.mk.injEq] at h; obtain ⟨rfl, rfl, rfl⟩ := h; exact ⟨_, rfl, rfl, Try.sizeOf23, Try.isAgg23⟩
  | (i + 3), h => by simp at h⟩
instance ty32 : Ty Try.prog 32 false 1 [.nilFunc] 8 := ⟨⟨Try.t32, _, by kernel_rfl, rfl, rfl, rfl, rfl⟩, Try.isAgg32, Try.sizeOf32, ⟨_, Try.zeroValue32, rfl⟩, ⟨_, Try.typeInfo32, rfl⟩⟩
instance hu32 : HasUnd Try.prog 32 := ⟨_, Try.runUnderlying32⟩
instance ty33 : Ty Try.prog 33 true 3 [.int .i64 0, .int .i64 0, .slice none 0 0] 40 := ⟨⟨Try.t33, _, by kernel_rfl, rfl, rfl, rfl, rfl⟩, Try.isAgg33, Try.sizeOf33, ⟨_, Try.zeroValue33, rfl⟩, ⟨_, Try.typeInfo33, rfl⟩⟩
instance hu33 : HasUnd Try.prog 33 := ⟨_, Try.runUnderlying33⟩
instance ss33 : StTy Try.prog 33 [(0, 1, false), (1, 1, false), (2, 1, false)] := ⟨_, Try.runUnderlying33, rfl, fun i off sz ag h => match i, h with
  | 0, h => by simp only [List.getElem?_cons_zero, List.getElem?_cons_succ, Option.some.injEq, Prod.mk.injEq] at h; obtain ⟨rfl, rfl, rfl⟩ := h; exact ⟨_, rfl, rfl, Try.sizeOf3, Try.isAgg3⟩
  | 1, h => by simp only [List.getElem?_cons_zero, List.getElem?_cons_succ, Option.some.injEq, Prod.mk.injEq] at h; obtain ⟨rfl, rfl, rfl⟩ := h; exact ⟨_, rfl, rfl, Try.sizeOf3, Try.isAgg3⟩
  | 2, h => by simp only [List.getElem?_cons_zero, List.getElem?_cons_succ, Option.some.injEq, Prod.mk.injEq] at h; obtain ⟨rfl, rfl, rfl⟩ := h; exact ⟨_, rfl, rfl, Try.sizeOf23, Try.isAgg23⟩
  | (i + 3), h => by simp at h⟩
instance ty34 : Ty Try.prog 34 false 1 [.map none] 8 := ⟨⟨Try.t34, _, by kernel_rfl, rfl, rfl, rfl, rfl⟩, Try.isAgg34, Try.sizeOf34, ⟨_, Try.zeroValue34, rfl⟩, ⟨_, Try.typeInfo34, rfl⟩⟩
instance hu34 : HasUnd Try.prog 34 := ⟨_, Try.runUnderlying34⟩
instance mt34 : MapTy Try.prog 34 5 3 := ⟨Try.runUnderlying34, Try.underlying34⟩
instance ty35 : Ty Try.prog 35 false 1 [.nilFunc] 8 := ⟨⟨Try.t35, _, by kernel_rfl, rfl, rfl, rfl, rfl⟩, Try.isAgg35, Try.sizeOf35, ⟨_, Try.zeroValue35, rfl⟩, ⟨_, Try.typeInfo35, rfl⟩⟩
instance hu35 : HasUnd Try.prog 35 := ⟨_, Try.runUnderlying35⟩
instance hu36 : HasUnd Try.prog 36 := ⟨_, Try.runUnderlying36⟩
instance ty37 : Ty Try.prog 37 false 1 [.nilFunc] 8 := ⟨⟨Try.t37, _, by kernel_rfl, rfl, rfl, rfl, rfl⟩, Try.isAgg37, Try.sizeOf37, ⟨_, Try.zeroValue37, rfl⟩, ⟨_, Try.typeInfo37, rfl⟩⟩
instance hu37 : HasUnd Try.prog 37 := ⟨_, Try.runUnderlying37⟩
instance ty38 : Ty Try.prog 38 false 1 [.nilFunc] 8 := ⟨⟨Try.t38, _, by kernel_rfl, rfl, rfl, rfl, rfl⟩, Try.isAgg38, Try.sizeOf38, ⟨_, Try.zeroValue38, rfl⟩, ⟨_, Try.typeInfo38, rfl⟩⟩
instance hu38 : HasUnd Try.prog 38 := ⟨_, Try.runUnderlying38⟩
instance ty39 : Ty Try.prog 39 false 1 [.nilFunc] 8 := ⟨⟨Try.t39, _, by kernel_rfl, rfl, rfl, rfl, rfl⟩, Try.isAgg39, Try.sizeOf39, ⟨_, Try.zeroValue39, rfl⟩, ⟨_, Try.typeInfo39, rfl⟩⟩
instance hu39 : HasUnd Try.prog 39 := ⟨_, Try.runUnderlying39⟩
instance ty40 : Ty Try.prog 40 false 1 [.nilFunc] 8 := ⟨⟨Try.t40, _, by kernel_rfl, rfl, rfl, rfl, rfl⟩, Try.isAgg40, Try.sizeOf40, ⟨_, Try.zeroValue40, rfl⟩, ⟨_, Try.typeInfo40, rfl⟩⟩
instance hu40 : HasUnd Try.prog 40 := ⟨_, Try.runUnderlying40⟩
instance ty41 : Ty Try.prog 41 false 1 [.nilFunc] 8 := ⟨⟨Try.t41, _, by kernel_rfl, rfl, rfl, rfl, rfl⟩, Try.isAgg41, Try.sizeOf41, ⟨_, Try.zeroValue41, rfl⟩, ⟨_, Try.typeInfo41, rfl⟩⟩
instance hu41 : HasUnd Try.prog 41 := ⟨_, Try.runUnderlying41⟩
instance ty42 : Ty Try.prog 42 false 1 [.nilFunc] 8 := ⟨⟨Try.t42, _, by kernel_rfl, rfl, rfl, rfl, rfl⟩, Try.isAgg42, Try.sizeOf42, ⟨_, Try.zeroValue42, rfl⟩, ⟨_, Try.typeInfo42, rfl⟩⟩
instance hu42 : HasUnd Try.prog 42 := ⟨_, Try.runUnderlying42⟩
instance ty43 : Ty Try.prog 43 false 1 [.slice none 0 0] 24 := ⟨⟨Try.t43, _, by kernel_rfl, rfl, rfl, rfl, rfl⟩, Try.isAgg43, Try.sizeOf43, ⟨_, Try.zeroValue43, rfl⟩, ⟨_, Try.typeInfo43, rfl⟩⟩
instance hu43 : HasUnd Try.prog 43 := ⟨_, Try.runUnderlying43⟩
instance sl43 : SlTy Try.prog 43 33 := ⟨Try.runUnderlying43, Try.underlying43⟩
instance ty44 : Ty Try.prog 44 false 1 [.nilFunc] 8 := ⟨⟨Try.t44, _, by kernel_rfl, rfl, rfl, rfl, rfl⟩, Try.isAgg44, Try.sizeOf44, ⟨_, Try.zeroValue44, rfl⟩, ⟨_, Try.typeInfo44, rfl⟩⟩
instance hu44 : HasUnd Try.prog 44 := ⟨_, Try.runUnderlying44⟩
instance ty45 : Ty Try.prog 45 false 1 [.nilFunc] 8 := ⟨⟨Try.t45, _, by kernel_rfl, rfl, rfl, rfl, rfl⟩, Try.isAgg45, Try.sizeOf45, ⟨_, Try.zeroValue45, rfl⟩, ⟨_, Try.typeInfo45, rfl⟩⟩
instance hu45 : HasUnd Try.prog 45 := ⟨_, Try.runUnderlying45⟩
instance ty46 : Ty Try.prog 46 false 1 [.nilFunc] 8 := ⟨⟨Try.t46, _, by kernel_rfl, rfl, rfl, rfl, rfl⟩, Try.isAgg46, Try.sizeOf46, ⟨_, Try.zeroValue46, rfl⟩, ⟨_, Try.typeInfo46, rfl⟩⟩
instance hu46 : HasUnd Try.prog 46 := ⟨_, Try.runUnderlying46⟩
instance ty47 : Ty Try.prog 47 false 1 [.nilFunc] 8 := ⟨⟨Try.t47, _, by kernel_rfl, rfl, rfl, rfl, rfl⟩, Try.isAgg47, Try.sizeOf47, ⟨_, Try.zeroValue47, rfl⟩, ⟨_, Try.typeInfo47, rfl⟩⟩
instance hu47 : HasUnd Try.prog 47 := ⟨_, Try.runUnderlying47⟩
instance ty48 : Ty Try.prog 48 false 1 [.nilFunc] 8 := ⟨⟨Try.t48, _, by kernel_rfl, rfl, rfl, rfl, rfl⟩, Try.isAgg48, Try.sizeOf48, ⟨_, Try.zeroValue48, rfl⟩, ⟨_, Try.typeInfo48, rfl⟩⟩
instance hu48 : HasUnd Try.prog 48 := ⟨_, Try.runUnderlying48⟩
instance ty49 : Ty Try.prog 49 false 1 [.slice none 0 0] 24 := ⟨⟨Try.t49, _, by kernel_rfl, rfl, rfl, rfl, rfl⟩, Try.isAgg49, Try.sizeOf49, ⟨_, Try.zeroValue49, rfl⟩, ⟨_, Try.typeInfo49, rfl⟩⟩
instance hu49 : HasUnd Try.prog 49 := ⟨_, Try.runUnderlying49⟩
instance sl49 : SlTy Try.prog 49 55 := ⟨Try.runUnderlying49, Try.underlying49⟩
instance ty50 : Ty Try.prog 50 false 1 [.pointer none] 8 := ⟨⟨Try.t50, _, by kernel_rfl, rfl, rfl, rfl, rfl⟩, Try.isAgg50, Try.sizeOf50, ⟨_, Try.zeroValue50, rfl⟩, ⟨_, Try.typeInfo50, rfl⟩⟩
instance hu50 : HasUnd Try.prog 50 := ⟨_, Try.runUnderlying50⟩
instance pt50 : PtrTy Try.prog 50 53 := ⟨Try.runUnderlying50, Try.underlying50⟩
instance ty51 : Ty Try.prog 51 false 1 [.slice none 0 0] 24 := ⟨⟨Try.t51, _, by kernel_rfl, rfl, rfl, rfl, rfl⟩, Try.isAgg51, Try.sizeOf51, ⟨_, Try.zeroValue51, rfl⟩, ⟨_, Try.typeInfo51, rfl⟩⟩
instance hu51 : HasUnd Try.prog 51 := ⟨_, Try.runUnderlying51⟩
instance sl51 : SlTy Try.prog 51 74 := ⟨Try.runUnderlying51, Try.underlying51⟩
instance ty52 : Ty Try.prog 52 true 3 [.int .i64 0, .slice none 0 0, .slice none 0 0] 56 := ⟨⟨Try.t52, _, by kernel_rfl, rfl, rfl, rfl, rfl⟩, Try.isAgg52, Try.sizeOf52, ⟨_, Try.zeroValue52, rfl⟩, ⟨_, Try.typeInfo52, rfl⟩⟩
instance hu52 : HasUnd Try.prog 52 := ⟨_, Try.runUnderlying52⟩
instance ss52 : StTy Try.prog 52 [(0, 1, false), (1, 1, false), (2, 1, false)] := ⟨_, Try.runUnderlying52, rfl, fun i off sz ag h => match i, h with
  | 0, h => by simp only [List.getElem?_cons_zero, List.getElem?_cons_succ, Option.some.injEq, Prod.mk.injEq] at h; obtain ⟨rfl, rfl, rfl⟩ := h; exact ⟨_, rfl, rfl, Try.sizeOf3, Try.isAgg3⟩
  | 1, h => by simp only [List.getElem?_cons_zero, List.getElem?_cons_succ, Option.some.injEq, Prod.mk.injEq] at h; obtain ⟨rfl, rfl, rfl⟩ := h; exact ⟨_, rfl, rfl, Try.sizeOf22, Try.isAgg22⟩
  | 2, h => by simp only [List.getElem?_cons_zero, List.getElem?_cons_succ, Option.some.injEq, Prod.mk.injEq] at h; obtain ⟨rfl, rfl, rfl⟩ := h; exact ⟨_, rfl, rfl, Try.sizeOf51, Try.isAgg51⟩
  | (i + 3), h => by simp at h⟩
instance ty53 : Ty Try.prog 53 true 3 [.int .i64 0, .slice none 0 0, .slice none 0 0] 56 := ⟨⟨Try.t53, _, by kernel_rfl, rfl, rfl, rfl, rfl⟩, Try.isAgg53, Try.sizeOf53, ⟨_, Try.zeroValue53, rfl⟩, ⟨_, Try.typeInfo53, rfl⟩⟩
instance hu53 : HasUnd Try.prog 53 := ⟨_, Try.runUnderlying53⟩
instance ss53 : StTy Try.prog 53 [(0, 1, false), (1, 1, false), (2, 1, false)] := ⟨_, Try.runUnderlying53, rfl, fun i off sz ag h => match i, h with
  | 0, h => by simp only [List.getElem?_cons_zero, List.getElem?_cons_succ, Option.some.injEq, Prod.mk.injEq] at h; obtain ⟨rfl, rfl, rfl⟩ := h; exact ⟨_, rfl, rfl, Try.sizeOf3, Try.isAgg3⟩
  | 1, h => by simp only [List.getElem?_cons_zero, List.getElem?_cons_succ, Option.some.injEq, Prod.mk.injEq] at h; obtain ⟨rfl, rfl, rfl⟩ := h; exact ⟨_, rfl, rfl, Try.sizeOf22, Try.isAgg22⟩
  | 2, h => by simp only [List.getElem?_cons_zero, List.getElem?_cons_succ, Option.some.injEq, Prod.mk.injEq] at h; obtain ⟨rfl, rfl, rfl⟩ := h; exact ⟨_, rfl, rfl, Try.sizeOf51, Try.isAgg51⟩
  | (i + 3), h => by simp at h⟩
instance ty54 : Ty Try.prog 54 true 5 [.int .u8 0, .slice none 0 0, .int .i64 0, .int .i64 0, .bool false] 56 := ⟨⟨Try.t54, _, by kernel_rfl, rfl, rfl, rfl, rfl⟩, Try.isAgg54, Try.sizeOf54, ⟨_, Try.zeroValue54, rfl⟩, ⟨_, Try.typeInfo54, rfl⟩⟩
instance hu54 : HasUnd Try.prog 54 := ⟨_, Try.runUnderlying54⟩
instance ss54 : StTy Try.prog 54 [(0, 1, false), (1, 1, false), (2, 1, false), (3, 1, false), (4, 1, false)] := ⟨_, Try.runUnderlying54, rfl, fun i off sz ag h => match i, h with
  | 0, h => by simp only [List.getElem?_cons_zero, List.getElem?_cons_succ, Option.some.injEq, Prod.mk.injEq] at h; obtain ⟨rfl, rfl, rfl⟩ := h; exact ⟨_, rfl, rfl, Try.sizeOf5, Try.isAgg5⟩
  | 1, h => by simp only [List.getElem?_cons_zero, List.getElem?_cons_succ, Option.some.injEq, Prod.mk.injEq] at h; obtain ⟨rfl, rfl, rfl⟩ := h; exact ⟨_, rfl, rfl, Try.sizeOf22, Try.isAgg22⟩
  | 2, h => by simp only [List.getElem?_cons_zero, List.getElem?_cons_succ, Option.some.injEq, Prod.mk.injEq] at h; obtain ⟨rfl, rfl, rfl⟩ := h; exact ⟨_, rfl, rfl, Try.sizeOf3, Try.isAgg3⟩
  | 3, h => by simp only [List.getElem?_cons_zero, List.getElem?_cons_succ, Option.some.injEq, Prod.mk.injEq] at h; obtain ⟨rfl, rfl, rfl⟩ := h; exact ⟨_, rfl, rfl, Try.sizeOf3, Try.isAgg3⟩
  | 4, h => by simp only [List.getElem?_cons_zero, List.getElem?_cons_succ, Option.some.injEq, Prod.mk.injEq] at h; obtain ⟨rfl, rfl, rfl⟩ := h; exact ⟨_, rfl, rfl, Try.sizeOf4, Try.isAgg4⟩
  | (i + 5), h => by simp at h⟩
instance ty55 : Ty Try.prog 55 true 5 [.int .u8 0, .slice none 0 0, .int .i64 0, .int .i64 0, .bool false] 56 := ⟨⟨Try.t55, _, by kernel_rfl, rfl, rfl, rfl, rfl⟩, Try.isAgg55, Try.sizeOf55, ⟨_, Try.zeroValue55, rfl⟩, ⟨_, Try.typeInfo55, rfl⟩⟩
instance hu55 : HasUnd Try.prog 55 := ⟨_, Try.runUnderlying55⟩
instance ss55 : StTy Try.prog 55 [(0, 1, false), (1, 1, false), (2, 1, false), (3, 1, false), (4, 1, false)] := ⟨_, Try.runUnderlying55, rfl, fun i off sz ag h => match i, h with
  | 0, h => by simp only [List.getElem?_cons_zero, List.getElem?_cons_succ, Option.some.injEq, Prod.mk.injEq] at h; obtain ⟨rfl, rfl, rfl⟩ := h; exact ⟨_, rfl, rfl, Try.sizeOf5, Try.isAgg5⟩
  | 1, h => by simp only [List.getElem?_cons_zero, List.getElem?_cons_succ, Option.some.injEq, Prod.mk.injEq] at h; obtain ⟨rfl, rfl, rfl⟩ := h; exact ⟨_, rfl, rfl, Try.sizeOf22, Try.isAgg22⟩
  | 2, h => by simp only [List.getElem?_cons_zero, List.getElem?_cons_succ, Option.some.injEq, Prod.mk.injEq] at h; obtain ⟨rfl, rfl, rfl⟩ := h; exact ⟨_, rfl, rfl, Try.sizeOf3, Try.isAgg3⟩
  | 3, h => by simp only [List.getElem?_cons_zero, List.getElem?_cons_succ, Option.some.injEq, Prod.mk.injEq] at h; obtain ⟨rfl, rfl, rfl⟩ := h; exact ⟨_, rfl, rfl, Try.sizeOf3, Try.isAgg3⟩
  | 4, h => by simp only [List.getElem?_cons_zero, List.getElem?_cons_succ, Option.some.injEq, Prod.mk.injEq] at h; obtain ⟨rfl, rfl, rfl⟩ := h; exact ⟨_, rfl, rfl, Try.sizeOf4, Try.isAgg4⟩
  | (i + 5), h => by simp at h⟩
instance hu56 : HasUnd Try.prog 56 := ⟨_, Try.runUnderlying56⟩
instance ty57 : Ty Try.prog 57 false 1 [.nilFunc] 8 := ⟨⟨Try.t57, _, by kernel_rfl, rfl, rfl, rfl, rfl⟩, Try.isAgg57, Try.sizeOf57, ⟨_, Try.zeroValue57, rfl⟩, ⟨_, Try.typeInfo57, rfl⟩⟩
instance hu57 : HasUnd Try.prog 57 := ⟨_, Try.runUnderlying57⟩
instance ty58 : Ty Try.prog 58 false 1 [.nilFunc] 8 := ⟨⟨Try.t58, _, by kernel_rfl, rfl, rfl, rfl, rfl⟩, Try.isAgg58, Try.sizeOf58, ⟨_, Try.zeroValue58, rfl⟩, ⟨_, Try.typeInfo58, rfl⟩⟩
instance hu58 : HasUnd Try.prog 58 := ⟨_, Try.runUnderlying58⟩
instance ty59 : Ty Try.prog 59 false 1 [.nilFunc] 8 := ⟨⟨Try.t59, _, by kernel_rfl, rfl, rfl, rfl, rfl⟩, Try.isAgg59, Try.sizeOf59, ⟨_, Try.zeroValue59, rfl⟩, ⟨_, Try.typeInfo59, rfl⟩⟩
instance hu59 : HasUnd Try.prog 59 := ⟨_, Try.runUnderlying59⟩
instance ty60 : Ty Try.prog 60 false 1 [.nilFunc] 8 := ⟨⟨Try.t60, _, by kernel_rfl, rfl, rfl, rfl, rfl⟩, Try.isAgg60, Try.sizeOf60, ⟨_, Try.zeroValue60, rfl⟩, ⟨_, Try.typeInfo60, rfl⟩⟩
instance hu60 : HasUnd Try.prog 60 := ⟨_, Try.runUnderlying60⟩
instance ty61 : Ty Try.prog 61 false 1 [.nilFunc] 8 := ⟨⟨Try.t61, _, by kernel_rfl, rfl, rfl, rfl, rfl⟩, Try.isAgg61, Try.sizeOf61, ⟨_, Try.zeroValue61, rfl⟩, ⟨_, Try.typeInfo61, rfl⟩⟩
instance hu61 : HasUnd Try.prog 61 := ⟨_, Try.runUnderlying61⟩
instance ty62 : Ty Try.prog 62 false 1 [.nilFunc] 8 := ⟨⟨Try.t62, _, by kernel_rfl, rfl, rfl, rfl, rfl⟩, Try.isAgg62, Try.sizeOf62, ⟨_, Try.zeroValue62, rfl⟩, ⟨_, Try.typeInfo62, rfl⟩⟩
instance hu62 : HasUnd Try.prog 62 := ⟨_, Try.runUnderlying62⟩
instance ty63 : Ty Try.prog 63 false 1 [.nilFunc] 8 := ⟨⟨Try.t63, _, by kernel_rfl, rfl, rfl, rfl, rfl⟩, Try.isAgg63, Try.sizeOf63, ⟨_, Try.zeroValue63, rfl⟩, ⟨_, Try.typeInfo63, rfl⟩⟩
instance hu63 : HasUnd Try.prog 63 := ⟨_, Try.runUnderlying63⟩
instance ty64 : Ty Try.prog 64 false 1 [.nilFunc] 8 := ⟨⟨Try.t64, _, by kernel_rfl, rfl, rfl, rfl, rfl⟩, Try.isAgg64, Try.sizeOf64, ⟨_, Try.zeroValue64, rfl⟩, ⟨_, Try.typeInfo64, rfl⟩⟩
instance hu64 : HasUnd Try.prog 64 := ⟨_, Try.runUnderlying64⟩
instance ty65 : Ty Try.prog 65 true 16 [.bool false, .bool false, .bool false, .bool false, .bool false, .bool false, .bool false, .bool false, .bool false, .bool false, .bool false, .bool false, .bool false, .bool false, .bool false, .bool false] 16 := ⟨⟨Try.t65, _, by kernel_rfl, rfl, rfl, rfl, rfl⟩, Try.isAgg65, Try.sizeOf65, ⟨_, Try.zeroValue65, rfl⟩, ⟨_, Try.typeInfo65, rfl⟩⟩
instance hu65 : HasUnd Try.prog 65 := ⟨_, Try.runUnderlying65⟩
instance at65 : ArrTy Try.prog 65 16 4 := ⟨Try.runUnderlying65, Try.underlying65⟩
theorem zt66 : Try.t66.zero = some (.agg (List.replicate 256 (Value.bool false)).toArray) := by kernel_rfl
instance ty66 : Ty Try.prog 66 true 256 (List.replicate 256 (Value.bool false)) 256 := ⟨⟨Try.t66, _, by kernel_rfl, rfl, rfl, zt66, rfl⟩, Try.isAgg66, Try.sizeOf66, ⟨Value.agg (List.replicate 256 (Value.bool false)).toArray, fun w => by simp only [zeroValue, Sem.run_bind, Try.typeInfo66, Result.andThen_ok, zt66, Sem.run_pure], rfl⟩, ⟨_, Try.typeInfo66, rfl⟩⟩
instance hu66 : HasUnd Try.prog 66 := ⟨_, Try.runUnderlying66⟩
instance at66 : ArrTy Try.prog 66 16 65 := ⟨Try.runUnderlying66, Try.underlying66⟩
theorem zt67 : Try.t67.zero = some (.agg (([.int .i64 0, .slice none 0 0] : List Value) ++ List.replicate 256 (Value.bool false)).toArray) := by kernel_rfl
instance ty67 : Ty Try.prog 67 true 258 (([.int .i64 0, .slice none 0 0] : List Value) ++ List.replicate 256 (Value.bool false)) 288 := ⟨⟨Try.t67, _, by kernel_rfl, rfl, rfl, zt67, rfl⟩, Try.isAgg67, Try.sizeOf67, ⟨Value.agg (([.int .i64 0, .slice none 0 0] : List Value) ++ List.replicate 256 (Value.bool false)).toArray, fun w => by simp only [zeroValue, Sem.run_bind, Try.typeInfo67, Result.andThen_ok, zt67, Sem.run_pure], rfl⟩, ⟨_, Try.typeInfo67, rfl⟩⟩
instance hu67 : HasUnd Try.prog 67 := ⟨_, Try.runUnderlying67⟩
instance ss67 : StTy Try.prog 67 [(0, 1, false), (1, 1, false), (2, 256, true)] := ⟨_, Try.runUnderlying67, rfl, fun i off sz ag h => match i, h with
  | 0, h => by simp only [List.getElem?_cons_zero, List.getElem?_cons_succ, Option.some.injEq, Prod.mk.injEq] at h; obtain ⟨rfl, rfl, rfl⟩ := h; exact ⟨_, rfl, rfl, Try.sizeOf3, Try.isAgg3⟩
  | 1, h => by simp only [List.getElem?_cons_zero, List.getElem?_cons_succ, Option.some.injEq, Prod.mk.injEq] at h; obtain ⟨rfl, rfl, rfl⟩ := h; exact ⟨_, rfl, rfl, Try.sizeOf43, Try.isAgg43⟩
  | 2, h => by simp only [List.getElem?_cons_zero, List.getElem?_cons_succ, Option.some.injEq, Prod.mk.injEq] at h; obtain ⟨rfl, rfl, rfl⟩ := h; exact ⟨_, rfl, rfl, Try.sizeOf66, Try.isAgg66⟩
  | (i + 3), h => by simp at h⟩
theorem zt68 : Try.t68.zero = some (.agg (([.int .i64 0, .slice none 0 0] : List Value) ++ List.replicate 256 (Value.bool false)).toArray) := by kernel_rfl
instance ty68 : Ty Try.prog 68 true 258 (([.int .i64 0, .slice none 0 0] : List Value) ++ List.replicate 256 (Value.bool false)) 288 := ⟨⟨Try.t68, _, by kernel_rfl, rfl, rfl, zt68, rfl⟩, Try.isAgg68, Try.sizeOf68, ⟨Value.agg (([.int .i64 0, .slice none 0 0] : List Value) ++ List.replicate 256 (Value.bool false)).toArray, fun w => by simp only [zeroValue, Sem.run_bind, Try.typeInfo68, Result.andThen_ok, zt68, Sem.run_pure], rfl⟩, ⟨_, Try.typeInfo68, rfl⟩⟩
instance hu68 : HasUnd Try.prog 68 := ⟨_, Try.runUnderlying68⟩
instance ss68 : StTy Try.prog 68 [(0, 1, false), (1, 1, false), (2, 256, true)] := ⟨_, Try.runUnderlying68, rfl, fun i off sz ag h => match i, h with
  | 0, h => by simp only [List.getElem?_cons_zero, List.getElem?_cons_succ, Option.some.injEq, Prod.mk.injEq] at h; obtain ⟨rfl, rfl, rfl⟩ := h; exact ⟨_, rfl, rfl, Try.sizeOf3, Try.isAgg3⟩
  | 1, h => by simp only [List.getElem?_cons_zero, List.getElem?_cons_succ, Option.some.injEq, Prod.mk.injEq] at h; obtain ⟨rfl, rfl, rfl⟩ := h; exact ⟨_, rfl, rfl, Try.sizeOf43, Try.isAgg43⟩
  | 2, h => by simp only [List.getElem?_cons_zero, List.getElem?_cons_succ, Option.some.injEq, Prod.mk.injEq] at h; obtain ⟨rfl, rfl, rfl⟩ := h; exact ⟨_, rfl, rfl, Try.sizeOf66, Try.isAgg66⟩
  | (i + 3), h => by simp at h⟩
instance ty69 : Ty Try.prog 69 false 1 [.nilFunc] 8 := ⟨⟨Try.t69, _, by kernel_rfl, rfl, rfl, rfl, rfl⟩, Try.isAgg69, Try.sizeOf69, ⟨_, Try.zeroValue69, rfl⟩, ⟨_, Try.typeInfo69, rfl⟩⟩
instance hu69 : HasUnd Try.prog 69 := ⟨_, Try.runUnderlying69⟩
instance ty70 : Ty Try.prog 70 false 1 [.nilFunc] 8 := ⟨⟨Try.t70, _, by kernel_rfl, rfl, rfl, rfl, rfl⟩, Try.isAgg70, Try.sizeOf70, ⟨_, Try.zeroValue70, rfl⟩, ⟨_, Try.typeInfo70, rfl⟩⟩
instance hu70 : HasUnd Try.prog 70 := ⟨_, Try.runUnderlying70⟩
instance ty71 : Ty Try.prog 71 false 1 [.nilFunc] 8 := ⟨⟨Try.t71, _, by kernel_rfl, rfl, rfl, rfl, rfl⟩, Try.isAgg71, Try.sizeOf71, ⟨_, Try.zeroValue71, rfl⟩, ⟨_, Try.typeInfo71, rfl⟩⟩
instance hu71 : HasUnd Try.prog 71 := ⟨_, Try.runUnderlying71⟩
instance ty72 : Ty Try.prog 72 false 1 [.slice none 0 0] 24 := ⟨⟨Try.t72, _, by kernel_rfl, rfl, rfl, rfl, rfl⟩, Try.isAgg72, Try.sizeOf72, ⟨_, Try.zeroValue72, rfl⟩, ⟨_, Try.typeInfo72, rfl⟩⟩
instance hu72 : HasUnd Try.prog 72 := ⟨_, Try.runUnderlying72⟩
instance sl72 : SlTy Try.prog 72 65 := ⟨Try.runUnderlying72, Try.underlying72⟩
instance ty73 : Ty Try.prog 73 false 1 [.nilFunc] 8 := ⟨⟨Try.t73, _, by kernel_rfl, rfl, rfl, rfl, rfl⟩, Try.isAgg73, Try.sizeOf73, ⟨_, Try.zeroValue73, rfl⟩, ⟨_, Try.typeInfo73, rfl⟩⟩
instance hu73 : HasUnd Try.prog 73 := ⟨_, Try.runUnderlying73⟩
instance ty74 : Ty Try.prog 74 true 2 [.int .i64 0, .int .i64 0] 16 := ⟨⟨Try.t74, _, by kernel_rfl, rfl, rfl, rfl, rfl⟩, Try.isAgg74, Try.sizeOf74, ⟨_, Try.zeroValue74, rfl⟩, ⟨_, Try.typeInfo74, rfl⟩⟩
instance hu74 : HasUnd Try.prog 74 := ⟨_, Try.runUnderlying74⟩
instance at74 : ArrTy Try.prog 74 2 3 := ⟨Try.runUnderlying74, Try.underlying74⟩
instance ty75 : Ty Try.prog 75 false 1 [.nilFunc] 8 := ⟨⟨Try.t75, _, by kernel_rfl, rfl, rfl, rfl, rfl⟩, Try.isAgg75, Try.sizeOf75, ⟨_, Try.zeroValue75, rfl⟩, ⟨_, Try.typeInfo75, rfl⟩⟩
instance hu75 : HasUnd Try.prog 75 := ⟨_, Try.runUnderlying75⟩
instance ty76 : Ty Try.prog 76 true 4 [.pointer none, .pointer none, .pointer none, .string ⟨#[]⟩] 40 := ⟨⟨Try.t76, _, by kernel_rfl, rfl, rfl, rfl, rfl⟩, Try.isAgg76, Try.sizeOf76, ⟨_, Try.zeroValue76, rfl⟩, ⟨_, Try.typeInfo76, rfl⟩⟩
instance hu76 : HasUnd Try.prog 76 := ⟨_, Try.runUnderlying76⟩
instance ss76 : StTy Try.prog 76 [(0, 1, false), (1, 1, false), (2, 1, false), (3, 1, false)] := ⟨_, Try.runUnderlying76, rfl, fun i off sz ag h => match i, h with
  | 0, h => by simp only [List.getElem?_cons_zero, List.getElem?_cons_succ, Option.some.injEq, Prod.mk.injEq] at h; obtain ⟨rfl, rfl, rfl⟩ := h; exact ⟨_, rfl, rfl, Try.sizeOf17, Try.isAgg17⟩
  | 1, h => by simp only [List.getElem?_cons_zero, List.getElem?_cons_succ, Option.some.injEq, Prod.mk.injEq] at h; obtain ⟨rfl, rfl, rfl⟩ := h; exact ⟨_, rfl, rfl, Try.sizeOf17, Try.isAgg17⟩
  | 2, h => by simp only [List.getElem?_cons_zero, List.getElem?_cons_succ, Option.some.injEq, Prod.mk.injEq] at h; obtain ⟨rfl, rfl, rfl⟩ := h; exact ⟨_, rfl, rfl, Try.sizeOf17, Try.isAgg17⟩
  | 3, h => by simp only [List.getElem?_cons_zero, List.getElem?_cons_succ, Option.some.injEq, Prod.mk.injEq] at h; obtain ⟨rfl, rfl, rfl⟩ := h; exact ⟨_, rfl, rfl, Try.sizeOf9, Try.isAgg9⟩
  | (i + 4), h => by simp at h⟩
instance ty77 : Ty Try.prog 77 true 4 [.pointer none, .pointer none, .pointer none, .string ⟨#[]⟩] 40 := ⟨⟨Try.t77, _, by kernel_rfl, rfl, rfl, rfl, rfl⟩, Try.isAgg77, Try.sizeOf77, ⟨_, Try.zeroValue77, rfl⟩, ⟨_, Try.typeInfo77, rfl⟩⟩
instance hu77 : HasUnd Try.prog 77 := ⟨_, Try.runUnderlying77⟩
instance ss77 : StTy Try.prog 77 [(0, 1, false), (1, 1, false), (2, 1, false), (3, 1, false)] := ⟨_, Try.runUnderlying77, rfl, fun i off sz ag h => match i, h with
  | 0, h => by simp only [List.getElem?_cons_zero, List.getElem?_cons_succ, Option.some.injEq, Prod.mk.injEq] at h; obtain ⟨rfl, rfl, rfl⟩ := h; exact ⟨_, rfl, rfl, Try.sizeOf17, Try.isAgg17⟩
  | 1, h => by simp only [List.getElem?_cons_zero, List.getElem?_cons_succ, Option.some.injEq, Prod.mk.injEq] at h; obtain ⟨rfl, rfl, rfl⟩ := h; exact ⟨_, rfl, rfl, Try.sizeOf17, Try.isAgg17⟩
  | 2, h => by simp only [List.getElem?_cons_zero, List.getElem?_cons_succ, Option.some.injEq, Prod.mk.injEq] at h; obtain ⟨rfl, rfl, rfl⟩ := h; exact ⟨_, rfl, rfl, Try.sizeOf17, Try.isAgg17⟩
  | 3, h => by simp only [List.getElem?_cons_zero, List.getElem?_cons_succ, Option.some.injEq, Prod.mk.injEq] at h; obtain ⟨rfl, rfl, rfl⟩ := h; exact ⟨_, rfl, rfl, Try.sizeOf9, Try.isAgg9⟩
  | (i + 4), h => by simp at h⟩
instance ty78 : Ty Try.prog 78 true 0 [] 0 := ⟨⟨Try.t78, _, by kernel_rfl, rfl, rfl, rfl, rfl⟩, Try.isAgg78, Try.sizeOf78, ⟨_, Try.zeroValue78, rfl⟩, ⟨_, Try.typeInfo78, rfl⟩⟩
instance hu78 : HasUnd Try.prog 78 := ⟨_, Try.runUnderlying78⟩
instance at78 : ArrTy Try.prog 78 0 16 := ⟨Try.runUnderlying78, Try.underlying78⟩
instance ty79 : Ty Try.prog 79 true 0 [] 0 := ⟨⟨Try.t79, _, by kernel_rfl, rfl, rfl, rfl, rfl⟩, Try.isAgg79, Try.sizeOf79, ⟨_, Try.zeroValue79, rfl⟩, ⟨_, Try.typeInfo79, rfl⟩⟩
instance hu79 : HasUnd Try.prog 79 := ⟨_, Try.runUnderlying79⟩
instance ss79 : StTy Try.prog 79 [(0, 0, true)] := ⟨_, Try.runUnderlying79, rfl, fun i off sz ag h => match i, h with
  | 0, h => by simp only [List.getElem?_cons_zero, List.getElem?_cons_succ, Option.some.injEq, Prod.mk.injEq] at h; obtain ⟨rfl, rfl, rfl⟩ := h; exact ⟨_, rfl, rfl, Try.sizeOf78, Try.isAgg78⟩
  | (i + 1), h => by simp at h⟩
instance ty80 : Ty Try.prog 80 true 0 [] 0 := ⟨⟨Try.t80, _, by kernel_rfl, rfl, rfl, rfl, rfl⟩, Try.isAgg80, Try.sizeOf80, ⟨_, Try.zeroValue80, rfl⟩, ⟨_, Try.typeInfo80, rfl⟩⟩
instance hu80 : HasUnd Try.prog 80 := ⟨_, Try.runUnderlying80⟩
instance ss80 : StTy Try.prog 80 [(0, 0, true)] := ⟨_, Try.runUnderlying80, rfl, fun i off sz ag h => match i, h with
  | 0, h => by simp only [List.getElem?_cons_zero, List.getElem?_cons_succ, Option.some.injEq, Prod.mk.injEq] at h; obtain ⟨rfl, rfl, rfl⟩ := h; exact ⟨_, rfl, rfl, Try.sizeOf78, Try.isAgg78⟩
  | (i + 1), h => by simp at h⟩
instance ty81 : Ty Try.prog 81 false 1 [.int .u32 0] 4 := ⟨⟨Try.t81, _, by kernel_rfl, rfl, rfl, rfl, rfl⟩, Try.isAgg81, Try.sizeOf81, ⟨_, Try.zeroValue81, rfl⟩, ⟨_, Try.typeInfo81, rfl⟩⟩
instance hu81 : HasUnd Try.prog 81 := ⟨_, Try.runUnderlying81⟩
instance it81 : IntTy Try.prog 81 .u32 := ⟨Try.runUnderlying81, Try.underlying81⟩
instance ty82 : Ty Try.prog 82 false 1 [.int .u8 0] 1 := ⟨⟨Try.t82, _, by kernel_rfl, rfl, rfl, rfl, rfl⟩, Try.isAgg82, Try.sizeOf82, ⟨_, Try.zeroValue82, rfl⟩, ⟨_, Try.typeInfo82, rfl⟩⟩
instance hu82 : HasUnd Try.prog 82 := ⟨_, Try.runUnderlying82⟩
instance it82 : IntTy Try.prog 82 .u8 := ⟨Try.runUnderlying82, Try.underlying82⟩
instance ty83 : Ty Try.prog 83 false 1 [.int .u8 0] 1 := ⟨⟨Try.t83, _, by kernel_rfl, rfl, rfl, rfl, rfl⟩, Try.isAgg83, Try.sizeOf83, ⟨_, Try.zeroValue83, rfl⟩, ⟨_, Try.typeInfo83, rfl⟩⟩
instance hu83 : HasUnd Try.prog 83 := ⟨_, Try.runUnderlying83⟩
instance it83 : IntTy Try.prog 83 .u8 := ⟨Try.runUnderlying83, Try.underlying83⟩
instance ty84 : Ty Try.prog 84 false 1 [.nilFunc] 8 := ⟨⟨Try.t84, _, by kernel_rfl, rfl, rfl, rfl, rfl⟩, Try.isAgg84, Try.sizeOf84, ⟨_, Try.zeroValue84, rfl⟩, ⟨_, Try.typeInfo84, rfl⟩⟩
instance hu84 : HasUnd Try.prog 84 := ⟨_, Try.runUnderlying84⟩
instance ty85 : Ty Try.prog 85 false 1 [.pointer none] 8 := ⟨⟨Try.t85, _, by kernel_rfl, rfl, rfl, rfl, rfl⟩, Try.isAgg85, Try.sizeOf85, ⟨_, Try.zeroValue85, rfl⟩, ⟨_, Try.typeInfo85, rfl⟩⟩
instance hu85 : HasUnd Try.prog 85 := ⟨_, Try.runUnderlying85⟩
instance pt85 : PtrTy Try.prog 85 5 := ⟨Try.runUnderlying85, Try.underlying85⟩
instance ty86 : Ty Try.prog 86 false 1 [.int .i32 0] 4 := ⟨⟨Try.t86, _, by kernel_rfl, rfl, rfl, rfl, rfl⟩, Try.isAgg86, Try.sizeOf86, ⟨_, Try.zeroValue86, rfl⟩, ⟨_, Try.typeInfo86, rfl⟩⟩
instance hu86 : HasUnd Try.prog 86 := ⟨_, Try.runUnderlying86⟩
instance it86 : IntTy Try.prog 86 .i32 := ⟨Try.runUnderlying86, Try.underlying86⟩
instance ty87 : Ty Try.prog 87 false 1 [.int .i32 0] 4 := ⟨⟨Try.t87, _, by kernel_rfl, rfl, rfl, rfl, rfl⟩, Try.isAgg87, Try.sizeOf87, ⟨_, Try.zeroValue87, rfl⟩, ⟨_, Try.typeInfo87, rfl⟩⟩
instance hu87 : HasUnd Try.prog 87 := ⟨_, Try.runUnderlying87⟩
instance it87 : IntTy Try.prog 87 .i32 := ⟨Try.runUnderlying87, Try.underlying87⟩
instance ty88 : Ty Try.prog 88 true 11 [.int .u64 0, .int .u64 0, .int .u32 0, .int .u8 0, .int .u8 0, .int .u8 0, .int .u8 0, .nilFunc, .pointer none, .int .i32 0, .int .i32 0] 48 := ⟨⟨Try.t88, _, by kernel_rfl, rfl, rfl, rfl, rfl⟩, Try.isAgg88, Try.sizeOf88, ⟨_, Try.zeroValue88, rfl⟩, ⟨_, Try.typeInfo88, rfl⟩⟩
instance hu88 : HasUnd Try.prog 88 := ⟨_, Try.runUnderlying88⟩
instance ss88 : StTy Try.prog 88 [(0, 1, false), (1, 1, false), (2, 1, false), (3, 1, false), (4, 1, false), (5, 1, false), (6, 1, false), (7, 1, false), (8, 1, false), (9, 1, false), (10, 1, false)] := ⟨_, Try.runUnderlying88, rfl, fun i off sz ag h => match i, h with
  | 0, h => by simp only [List.getElem?_cons_zero, List.getElem?_cons_succ, Option.some.injEq, Prod.mk.injEq] at h; obtain ⟨rfl, rfl, rfl⟩ := h; exact ⟨_, rfl, rfl, Try.sizeOf12, Try.isAgg12⟩
  | 1, h => by simp only [List.getElem?_cons_zero, List.getElem?_cons_succ, Option.some.injEq, Prod.mk.injEq] at h; obtain ⟨rfl, rfl, rfl⟩ := h; exact ⟨_, rfl, rfl, Try.sizeOf12, Try.isAgg12⟩
  | 2, h => by simp only [List.getElem?_cons_zero, List.getElem?_cons_succ, Option.some.injEq, Prod.mk.injEq] at h; obtain ⟨rfl, rfl, rfl⟩ := h; exact ⟨_, rfl, rfl, Try.sizeOf81, Try.isAgg81⟩
  | 3, h => by simp only [List.getElem?_cons_zero, List.getElem?_cons_succ, Option.some.injEq, Prod.mk.injEq] at h; obtain ⟨rfl, rfl, rfl⟩ := h; exact ⟨_, rfl, rfl, Try.sizeOf82, Try.isAgg82⟩
  | 4, h => by simp only [List.getElem?_cons_zero, List.getElem?_cons_succ, Option.some.injEq, Prod.mk.injEq] at h; obtain ⟨rfl, rfl, rfl⟩ := h; exact ⟨_, rfl, rfl, Try.sizeOf5, Try.isAgg5⟩
  | 5, h => by simp only [List.getElem?_cons_zero, List.getElem?_cons_succ, Option.some.injEq, Prod.mk.injEq] at h; obtain ⟨rfl, rfl, rfl⟩ := h; exact ⟨_, rfl, rfl, Try.sizeOf5, Try.isAgg5⟩
  | 6, h => by simp only [List.getElem?_cons_zero, List.getElem?_cons_succ, Option.some.injEq, Prod.mk.injEq] at h; obtain ⟨rfl, rfl, rfl⟩ := h; exact ⟨_, rfl, rfl, Try.sizeOf83, Try.isAgg83⟩
  | 7, h => by simp only [List.getElem?_cons_zero, List.getElem?_cons_succ, Option.some.injEq, Prod.mk.injEq] at h; obtain ⟨rfl, rfl, rfl⟩ := h; exact ⟨_, rfl, rfl, Try.sizeOf84, Try.isAgg84⟩
  | 8, h => by simp only [List.getElem?_cons_zero, List.getElem?_cons_succ, Option.some.injEq, Prod.mk.injEq] at h; obtain ⟨rfl, rfl, rfl⟩ := h; exact ⟨_, rfl, rfl, Try.sizeOf85, Try.isAgg85⟩
  | 9, h => by simp only [List.getElem?_cons_zero, List.getElem?_cons_succ, Option.some.injEq, Prod.mk.injEq] at h; obtain ⟨rfl, rfl, rfl⟩ := h; exact ⟨_, rfl, rfl, Try.sizeOf86, Try.isAgg86⟩
  | 10, h => by simp only [List.getElem?_cons_zero, List.getElem?_cons_succ, Option.some.injEq, Prod.mk.injEq] at h; obtain ⟨rfl, rfl, rfl⟩ := h; exact ⟨_, rfl, rfl, Try.sizeOf87, Try.isAgg87⟩
  | (i + 11), h => by simp at h⟩
instance ty89 : Ty Try.prog 89 true 11 [.int .u64 0, .int .u64 0, .int .u32 0, .int .u8 0, .int .u8 0, .int .u8 0, .int .u8 0, .nilFunc, .pointer none, .int .i32 0, .int .i32 0] 48 := ⟨⟨Try.t89, _, by kernel_rfl, rfl, rfl, rfl, rfl⟩, Try.isAgg89, Try.sizeOf89, ⟨_, Try.zeroValue89, rfl⟩, ⟨_, Try.typeInfo89, rfl⟩⟩
instance hu89 : HasUnd Try.prog 89 := ⟨_, Try.runUnderlying89⟩
instance ss89 : StTy Try.prog 89 [(0, 1, false), (1, 1, false), (2, 1, false), (3, 1, false), (4, 1, false), (5, 1, false), (6, 1, false), (7, 1, false), (8, 1, false), (9, 1, false), (10, 1, false)] := ⟨_, Try.runUnderlying89, rfl, fun i off sz ag h => match i, h with
  | 0, h => by simp only [List.getElem?_cons_zero, List.getElem?_cons_succ, Option.some.injEq, Prod.mk.injEq] at h; obtain ⟨rfl, rfl, rfl⟩ := h; exact ⟨_, rfl, rfl, Try.sizeOf12, Try.isAgg12⟩
  | 1, h => by simp only [List.getElem?_cons_zero, List.getElem?_cons_succ, Option.some.injEq, Prod.mk.injEq] at h; obtain ⟨rfl, rfl, rfl⟩ := h; exact ⟨_, rfl, rfl, Try.sizeOf12, Try.isAgg12⟩
  | 2, h => by simp only [List.getElem?_cons_zero, List.getElem?_cons_succ, Option.some.injEq, Prod.mk.injEq] at h; obtain ⟨rfl, rfl, rfl⟩ := h; exact ⟨_, rfl, rfl, Try.sizeOf81, Try.isAgg81⟩
  | 3, h => by simp only [List.getElem?_cons_zero, List.getElem?_cons_succ, Option.some.injEq, Prod.mk.injEq] at h; obtain ⟨rfl, rfl, rfl⟩ := h; exact ⟨_, rfl, rfl, Try.sizeOf82, Try.isAgg82⟩
  | 4, h => by simp only [List.getElem?_cons_zero, List.getElem?_cons_succ, Option.some.injEq, Prod.mk.injEq] at h; obtain ⟨rfl, rfl, rfl⟩ := h; exact ⟨_, rfl, rfl, Try.sizeOf5, Try.isAgg5⟩
  | 5, h => by simp only [List.getElem?_cons_zero, List.getElem?_cons_succ, Option.some.injEq, Prod.mk.injEq] at h; obtain ⟨rfl, rfl, rfl⟩ := h; exact ⟨_, rfl, rfl, Try.sizeOf5, Try.isAgg5⟩
  | 6, h => by simp only [List.getElem?_cons_zero, List.getElem?_cons_succ, Option.some.injEq, Prod.mk.injEq] at h; obtain ⟨rfl, rfl, rfl⟩ := h; exact ⟨_, rfl, rfl, Try.sizeOf83, Try.isAgg83⟩
  | 7, h => by simp only [List.getElem?_cons_zero, List.getElem?_cons_succ, Option.some.injEq, Prod.mk.injEq] at h; obtain ⟨rfl, rfl, rfl⟩ := h; exact ⟨_, rfl, rfl, Try.sizeOf84, Try.isAgg84⟩
  | 8, h => by simp only [List.getElem?_cons_zero, List.getElem?_cons_succ, Option.some.injEq, Prod.mk.injEq] at h; obtain ⟨rfl, rfl, rfl⟩ := h; exact ⟨_, rfl, rfl, Try.sizeOf85, Try.isAgg85⟩
  | 9, h => by simp only [List.getElem?_cons_zero, List.getElem?_cons_succ, Option.some.injEq, Prod.mk.injEq] at h; obtain ⟨rfl, rfl, rfl⟩ := h; exact ⟨_, rfl, rfl, Try.sizeOf86, Try.isAgg86⟩
  | 10, h => by simp only [List.getElem?_cons_zero, List.getElem?_cons_succ, Option.some.injEq, Prod.mk.injEq] at h; obtain ⟨rfl, rfl, rfl⟩ := h; exact ⟨_, rfl, rfl, Try.sizeOf87, Try.isAgg87⟩
  | (i + 11), h => by simp at h⟩
instance ty90 : Ty Try.prog 90 false 1 [.pointer none] 8 := ⟨⟨Try.t90, _, by kernel_rfl, rfl, rfl, rfl, rfl⟩, Try.isAgg90, Try.sizeOf90, ⟨_, Try.zeroValue90, rfl⟩, ⟨_, Try.typeInfo90, rfl⟩⟩
instance hu90 : HasUnd Try.prog 90 := ⟨_, Try.runUnderlying90⟩
instance en3 : Enters Try.prog 3 := ⟨Try.call3⟩
instance en4 : Enters Try.prog 4 := ⟨Try.call4⟩
instance en5 : Enters Try.prog 5 := ⟨Try.call5⟩
instance en6 : Enters Try.prog 6 := ⟨Try.call6⟩
instance en7 : Enters Try.prog 7 := ⟨Try.call7⟩
instance en8 : Enters Try.prog 8 := ⟨Try.call8⟩
instance en9 : Enters Try.prog 9 := ⟨Try.call9⟩
instance en10 : Enters Try.prog 10 := ⟨Try.call10⟩
instance en11 : Enters Try.prog 11 := ⟨Try.call11⟩
instance en12 : Enters Try.prog 12 := ⟨Try.call12⟩
instance en13 : Enters Try.prog 13 := ⟨Try.call13⟩
instance en14 : Enters Try.prog 14 := ⟨Try.call14⟩
instance en15 : Enters Try.prog 15 := ⟨Try.call15⟩
instance en16 : Enters Try.prog 16 := ⟨Try.call16⟩
instance en17 : Enters Try.prog 17 := ⟨Try.call17⟩
instance en18 : Enters Try.prog 18 := ⟨Try.call18⟩
instance en19 : Enters Try.prog 19 := ⟨Try.call19⟩
instance en20 : Enters Try.prog 20 := ⟨Try.call20⟩
instance en21 : Enters Try.prog 21 := ⟨Try.call21⟩
instance en22 : Enters Try.prog 22 := ⟨Try.call22⟩
instance en23 : Enters Try.prog 23 := ⟨Try.call23⟩
instance en24 : Enters Try.prog 24 := ⟨Try.call24⟩
instance en25 : Enters Try.prog 25 := ⟨Try.call25⟩
instance en26 : Enters Try.prog 26 := ⟨Try.call26⟩
instance en27 : Enters Try.prog 27 := ⟨Try.call27⟩
instance en28 : Enters Try.prog 28 := ⟨Try.call28⟩
instance en29 : Enters Try.prog 29 := ⟨Try.call29⟩
instance en30 : Enters Try.prog 30 := ⟨Try.call30⟩
instance en31 : Enters Try.prog 31 := ⟨Try.call31⟩
instance en32 : Enters Try.prog 32 := ⟨Try.call32⟩
instance en33 : Enters Try.prog 33 := ⟨Try.call33⟩
end Go.Proofs.Ytdjglpmnfckimaa
