/- Facts on the types of the program, one by one. No condition. By a program (wip/gen/gsa.py). -/
import Derived.Test.YtjidejcehmamkaaDoorProg
import Derived.Test.YtjidejcehmamkaaDoorSxG
import Derived.KernelRfl
namespace Go.Proofs.YtjidejcehmamkaaDoor
open Go Go.SX
instance hu0 : HasUnd Tryd.prog 0 := ⟨_, Tryd.runUnderlying0⟩
instance ty1 : Ty Tryd.prog 1 false 1 [.nilFunc] 8 := ⟨⟨Tryd.t1, _, by kernel_rfl, rfl, rfl, rfl, rfl⟩, Tryd.isAgg1, Tryd.sizeOf1, ⟨_, Tryd.zeroValue1, rfl⟩, ⟨_, Tryd.typeInfo1, rfl⟩⟩
instance hu1 : HasUnd Tryd.prog 1 := ⟨_, Tryd.runUnderlying1⟩
instance ty2 : Ty Tryd.prog 2 false 1 [.int .i64 0] 8 := ⟨⟨Tryd.t2, _, by kernel_rfl, rfl, rfl, rfl, rfl⟩, Tryd.isAgg2, Tryd.sizeOf2, ⟨_, Tryd.zeroValue2, rfl⟩, ⟨_, Tryd.typeInfo2, rfl⟩⟩
instance hu2 : HasUnd Tryd.prog 2 := ⟨_, Tryd.runUnderlying2⟩
instance it2 : IntTy Tryd.prog 2 .i64 := ⟨Tryd.runUnderlying2, Tryd.underlying2⟩
instance ty3 : Ty Tryd.prog 3 false 1 [.int .i64 0] 8 := ⟨⟨Tryd.t3, _, by kernel_rfl, rfl, rfl, rfl, rfl⟩, Tryd.isAgg3, Tryd.sizeOf3, ⟨_, Tryd.zeroValue3, rfl⟩, ⟨_, Tryd.typeInfo3, rfl⟩⟩
instance hu3 : HasUnd Tryd.prog 3 := ⟨_, Tryd.runUnderlying3⟩
instance it3 : IntTy Tryd.prog 3 .i64 := ⟨Tryd.runUnderlying3, Tryd.underlying3⟩
instance ty4 : Ty Tryd.prog 4 false 1 [.bool false] 1 := ⟨⟨Tryd.t4, _, by kernel_rfl, rfl, rfl, rfl, rfl⟩, Tryd.isAgg4, Tryd.sizeOf4, ⟨_, Tryd.zeroValue4, rfl⟩, ⟨_, Tryd.typeInfo4, rfl⟩⟩
instance hu4 : HasUnd Tryd.prog 4 := ⟨_, Tryd.runUnderlying4⟩
instance bt4 : BoolTy Tryd.prog 4 := ⟨Tryd.underlying4⟩
instance ty5 : Ty Tryd.prog 5 false 1 [.int .u8 0] 1 := ⟨⟨Tryd.t5, _, by kernel_rfl, rfl, rfl, rfl, rfl⟩, Tryd.isAgg5, Tryd.sizeOf5, ⟨_, Tryd.zeroValue5, rfl⟩, ⟨_, Tryd.typeInfo5, rfl⟩⟩
instance hu5 : HasUnd Tryd.prog 5 := ⟨_, Tryd.runUnderlying5⟩
instance it5 : IntTy Tryd.prog 5 .u8 := ⟨Tryd.runUnderlying5, Tryd.underlying5⟩
instance ty6 : Ty Tryd.prog 6 false 1 [.int .u8 0] 1 := ⟨⟨Tryd.t6, _, by kernel_rfl, rfl, rfl, rfl, rfl⟩, Tryd.isAgg6, Tryd.sizeOf6, ⟨_, Tryd.zeroValue6, rfl⟩, ⟨_, Tryd.typeInfo6, rfl⟩⟩
instance hu6 : HasUnd Tryd.prog 6 := ⟨_, Tryd.runUnderlying6⟩
instance it6 : IntTy Tryd.prog 6 .u8 := ⟨Tryd.runUnderlying6, Tryd.underlying6⟩
instance ty7 : Ty Tryd.prog 7 true 4 [.int .i64 0, .int .i64 0, .bool false, .int .u8 0] 24 := ⟨⟨Tryd.t7, _, by kernel_rfl, rfl, rfl, rfl, rfl⟩, Tryd.isAgg7, Tryd.sizeOf7, ⟨_, Tryd.zeroValue7, rfl⟩, ⟨_, Tryd.typeInfo7, rfl⟩⟩
instance hu7 : HasUnd Tryd.prog 7 := ⟨_, Tryd.runUnderlying7⟩
instance ss7 : StTy Tryd.prog 7 [(0, 1, false), (1, 1, false), (2, 1, false), (3, 1, false)] := ⟨_, Tryd.runUnderlying7, rfl, fun i off sz ag h => match i, h with
  | 0, h => by simp only [List.getElem?_cons_zero, List.getElem?_cons_succ, Option.some.injEq, Prod.mk.injEq] at h; obtain ⟨rfl, rfl, rfl⟩ := h; exact ⟨_, rfl, rfl, Tryd.sizeOf2, Tryd.isAgg2⟩
  | 1, h => by simp only [List.getElem?_cons_zero, List.getElem?_cons_succ, Option.some.injEq, Prod.mk.injEq] at h; obtain ⟨rfl, rfl, rfl⟩ := h; exact ⟨_, rfl, rfl, Tryd.sizeOf3, Tryd.isAgg3⟩
  | 2, h => by simp only [List.getElem?_cons_zero, List.getElem?_cons_succ, Option.some.injEq, Prod.mk.injEq] at h; obtain ⟨rfl, rfl, rfl⟩ := h; exact ⟨_, rfl, rfl, Tryd.sizeOf4, Tryd.isAgg4⟩
  | 3, h => by simp only [List.getElem?_cons_zero, List.getElem?_cons_succ, Option.some.injEq, Prod.mk.injEq] at h; obtain ⟨rfl, rfl, rfl⟩ := h; exact ⟨_, rfl, rfl, Tryd.sizeOf6, Tryd.isAgg6⟩
  | (i + 4), h => by simp at h⟩
instance ty8 : Ty Tryd.prog 8 true 4 [.int .i64 0, .int .i64 0, .bool false, .int .u8 0] 24 := ⟨⟨Tryd.t8, _, by kernel_rfl, rfl, rfl, rfl, rfl⟩, Tryd.isAgg8, Tryd.sizeOf8, ⟨_, Tryd.zeroValue8, rfl⟩, ⟨_, Tryd.typeInfo8, rfl⟩⟩
instance hu8 : HasUnd Tryd.prog 8 := ⟨_, Tryd.runUnderlying8⟩
instance ss8 : StTy Tryd.prog 8 [(0, 1, false), (1, 1, false), (2, 1, false), (3, 1, false)] := ⟨_, Tryd.runUnderlying8, rfl, fun i off sz ag h => match i, h with
  | 0, h => by simp only [List.getElem?_cons_zero, List.getElem?_cons_succ, Option.some.injEq, Prod.mk.injEq] at h; obtain ⟨rfl, rfl, rfl⟩ := h; exact ⟨_, rfl, rfl, Tryd.sizeOf2, Tryd.isAgg2⟩
  | 1, h => by simp only [List.getElem?_cons_zero, List.getElem?_cons_succ, Option.some.injEq, Prod.mk.injEq] at h; obtain ⟨rfl, rfl, rfl⟩ := h; exact ⟨_, rfl, rfl, Tryd.sizeOf3, Tryd.isAgg3⟩
  | 2, h => by simp only [List.getElem?_cons_zero, List.getElem?_cons_succ, Option.some.injEq, Prod.mk.injEq] at h; obtain ⟨rfl, rfl, rfl⟩ := h; exact ⟨_, rfl, rfl, Tryd.sizeOf4, Tryd.isAgg4⟩
  | 3, h => by simp only [List.getElem?_cons_zero, List.getElem?_cons_succ, Option.some.injEq, Prod.mk.injEq] at h; obtain ⟨rfl, rfl, rfl⟩ := h; exact ⟨_, rfl, rfl, Tryd.sizeOf6, Tryd.isAgg6⟩
  | (i + 4), h => by simp at h⟩
instance ty9 : Ty Tryd.prog 9 false 1 [.string ⟨#[]⟩] 16 := ⟨⟨Tryd.t9, _, by kernel_rfl, rfl, rfl, rfl, rfl⟩, Tryd.isAgg9, Tryd.sizeOf9, ⟨_, Tryd.zeroValue9, rfl⟩, ⟨_, Tryd.typeInfo9, rfl⟩⟩
instance hu9 : HasUnd Tryd.prog 9 := ⟨_, Tryd.runUnderlying9⟩
instance st9 : StrTy Tryd.prog 9 := ⟨Tryd.runUnderlying9, Tryd.underlying9⟩
instance ty10 : Ty Tryd.prog 10 false 1 [.string ⟨#[]⟩] 16 := ⟨⟨Tryd.t10, _, by kernel_rfl, rfl, rfl, rfl, rfl⟩, Tryd.isAgg10, Tryd.sizeOf10, ⟨_, Tryd.zeroValue10, rfl⟩, ⟨_, Tryd.typeInfo10, rfl⟩⟩
instance hu10 : HasUnd Tryd.prog 10 := ⟨_, Tryd.runUnderlying10⟩
instance st10 : StrTy Tryd.prog 10 := ⟨Tryd.runUnderlying10, Tryd.underlying10⟩
instance ty11 : Ty Tryd.prog 11 false 1 [.string ⟨#[]⟩] 16 := ⟨⟨Tryd.t11, _, by kernel_rfl, rfl, rfl, rfl, rfl⟩, Tryd.isAgg11, Tryd.sizeOf11, ⟨_, Tryd.zeroValue11, rfl⟩, ⟨_, Tryd.typeInfo11, rfl⟩⟩
instance hu11 : HasUnd Tryd.prog 11 := ⟨_, Tryd.runUnderlying11⟩
instance st11 : StrTy Tryd.prog 11 := ⟨Tryd.runUnderlying11, Tryd.underlying11⟩
instance ty12 : Ty Tryd.prog 12 false 1 [.int .u64 0] 8 := ⟨⟨Tryd.t12, _, by kernel_rfl, rfl, rfl, rfl, rfl⟩, Tryd.isAgg12, Tryd.sizeOf12, ⟨_, Tryd.zeroValue12, rfl⟩, ⟨_, Tryd.typeInfo12, rfl⟩⟩
instance hu12 : HasUnd Tryd.prog 12 := ⟨_, Tryd.runUnderlying12⟩
instance it12 : IntTy Tryd.prog 12 .u64 := ⟨Tryd.runUnderlying12, Tryd.underlying12⟩
instance ty13 : Ty Tryd.prog 13 true 2 [.string ⟨#[]⟩, .int .u64 0] 24 := ⟨⟨Tryd.t13, _, by kernel_rfl, rfl, rfl, rfl, rfl⟩, Tryd.isAgg13, Tryd.sizeOf13, ⟨_, Tryd.zeroValue13, rfl⟩, ⟨_, Tryd.typeInfo13, rfl⟩⟩
instance hu13 : HasUnd Tryd.prog 13 := ⟨_, Tryd.runUnderlying13⟩
instance ss13 : StTy Tryd.prog 13 [(0, 1, false), (1, 1, false)] := ⟨_, Tryd.runUnderlying13, rfl, fun i off sz ag h => match i, h with
  | 0, h => by simp only [List.getElem?_cons_zero, List.getElem?_cons_succ, Option.some.injEq, Prod.mk.injEq] at h; obtain ⟨rfl, rfl, rfl⟩ := h; exact ⟨_, rfl, rfl, Tryd.sizeOf9, Tryd.isAgg9⟩
  | 1, h => by simp only [List.getElem?_cons_zero, List.getElem?_cons_succ, Option.some.injEq, Prod.mk.injEq] at h; obtain ⟨rfl, rfl, rfl⟩ := h; exact ⟨_, rfl, rfl, Tryd.sizeOf12, Tryd.isAgg12⟩
  | (i + 2), h => by simp at h⟩
instance ty14 : Ty Tryd.prog 14 true 2 [.string ⟨#[]⟩, .int .u64 0] 24 := ⟨⟨Tryd.t14, _, by kernel_rfl, rfl, rfl, rfl, rfl⟩, Tryd.isAgg14, Tryd.sizeOf14, ⟨_, Tryd.zeroValue14, rfl⟩, ⟨_, Tryd.typeInfo14, rfl⟩⟩
instance hu14 : HasUnd Tryd.prog 14 := ⟨_, Tryd.runUnderlying14⟩
instance ss14 : StTy Tryd.prog 14 [(0, 1, false), (1, 1, false)] := ⟨_, Tryd.runUnderlying14, rfl, fun i off sz ag h => match i, h with
  | 0, h => by simp only [List.getElem?_cons_zero, List.getElem?_cons_succ, Option.some.injEq, Prod.mk.injEq] at h; obtain ⟨rfl, rfl, rfl⟩ := h; exact ⟨_, rfl, rfl, Tryd.sizeOf9, Tryd.isAgg9⟩
  | 1, h => by simp only [List.getElem?_cons_zero, List.getElem?_cons_succ, Option.some.injEq, Prod.mk.injEq] at h; obtain ⟨rfl, rfl, rfl⟩ := h; exact ⟨_, rfl, rfl, Tryd.sizeOf12, Tryd.isAgg12⟩
  | (i + 2), h => by simp at h⟩
instance ty15 : Ty Tryd.prog 15 false 1 [.pointer none] 8 := ⟨⟨Tryd.t15, _, by kernel_rfl, rfl, rfl, rfl, rfl⟩, Tryd.isAgg15, Tryd.sizeOf15, ⟨_, Tryd.zeroValue15, rfl⟩, ⟨_, Tryd.typeInfo15, rfl⟩⟩
instance hu15 : HasUnd Tryd.prog 15 := ⟨_, Tryd.runUnderlying15⟩
instance pt15 : PtrTy Tryd.prog 15 165 := ⟨Tryd.runUnderlying15, Tryd.underlying15⟩
instance ty16 : Ty Tryd.prog 16 false 1 [.pointer none] 8 := ⟨⟨Tryd.t16, _, by kernel_rfl, rfl, rfl, rfl, rfl⟩, Tryd.isAgg16, Tryd.sizeOf16, ⟨_, Tryd.zeroValue16, rfl⟩, ⟨_, Tryd.typeInfo16, rfl⟩⟩
instance hu16 : HasUnd Tryd.prog 16 := ⟨_, Tryd.runUnderlying16⟩
instance pt16 : PtrTy Tryd.prog 16 168 := ⟨Tryd.runUnderlying16, Tryd.underlying16⟩
instance ty17 : Ty Tryd.prog 17 false 1 [.pointer none] 8 := ⟨⟨Tryd.t17, _, by kernel_rfl, rfl, rfl, rfl, rfl⟩, Tryd.isAgg17, Tryd.sizeOf17, ⟨_, Tryd.zeroValue17, rfl⟩, ⟨_, Tryd.typeInfo17, rfl⟩⟩
instance hu17 : HasUnd Tryd.prog 17 := ⟨_, Tryd.runUnderlying17⟩
instance pt17 : PtrTy Tryd.prog 17 176 := ⟨Tryd.runUnderlying17, Tryd.underlying17⟩
instance ty18 : Ty Tryd.prog 18 true 1 [.pointer none] 8 := ⟨⟨Tryd.t18, _, by kernel_rfl, rfl, rfl, rfl, rfl⟩, Tryd.isAgg18, Tryd.sizeOf18, ⟨_, Tryd.zeroValue18, rfl⟩, ⟨_, Tryd.typeInfo18, rfl⟩⟩
instance hu18 : HasUnd Tryd.prog 18 := ⟨_, Tryd.runUnderlying18⟩
instance ss18 : StTy Tryd.prog 18 [(0, 1, false)] := ⟨_, Tryd.runUnderlying18, rfl, fun i off sz ag h => match i, h with
  | 0, h => by simp only [List.getElem?_cons_zero, List.getElem?_cons_succ, Option.some.injEq, Prod.mk.injEq] at h; obtain ⟨rfl, rfl, rfl⟩ := h; exact ⟨_, rfl, rfl, Tryd.sizeOf17, Tryd.isAgg17⟩
  | (i + 1), h => by simp at h⟩
instance ty19 : Ty Tryd.prog 19 true 1 [.pointer none] 8 := ⟨⟨Tryd.t19, _, by kernel_rfl, rfl, rfl, rfl, rfl⟩, Tryd.isAgg19, Tryd.sizeOf19, ⟨_, Tryd.zeroValue19, rfl⟩, ⟨_, Tryd.typeInfo19, rfl⟩⟩
instance hu19 : HasUnd Tryd.prog 19 := ⟨_, Tryd.runUnderlying19⟩
instance ss19 : StTy Tryd.prog 19 [(0, 1, false)] := ⟨_, Tryd.runUnderlying19, rfl, fun i off sz ag h => match i, h with
  | 0, h => by simp only [List.getElem?_cons_zero, List.getElem?_cons_succ, Option.some.injEq, Prod.mk.injEq] at h; obtain ⟨rfl, rfl, rfl⟩ := h; exact ⟨_, rfl, rfl, Tryd.sizeOf17, Tryd.isAgg17⟩
  | (i + 1), h => by simp at h⟩
instance ty20 : Ty Tryd.prog 20 false 1 [.nilIface] 16 := ⟨⟨Tryd.t20, _, by kernel_rfl, rfl, rfl, rfl, rfl⟩, Tryd.isAgg20, Tryd.sizeOf20, ⟨_, Tryd.zeroValue20, rfl⟩, ⟨_, Tryd.typeInfo20, rfl⟩⟩
instance hu20 : HasUnd Tryd.prog 20 := ⟨_, Tryd.runUnderlying20⟩
instance ty21 : Ty Tryd.prog 21 false 1 [.int .i32 0] 4 := ⟨⟨Tryd.t21, _, by kernel_rfl, rfl, rfl, rfl, rfl⟩, Tryd.isAgg21, Tryd.sizeOf21, ⟨_, Tryd.zeroValue21, rfl⟩, ⟨_, Tryd.typeInfo21, rfl⟩⟩
instance hu21 : HasUnd Tryd.prog 21 := ⟨_, Tryd.runUnderlying21⟩
instance it21 : IntTy Tryd.prog 21 .i32 := ⟨Tryd.runUnderlying21, Tryd.underlying21⟩
instance ty22 : Ty Tryd.prog 22 false 1 [.slice none 0 0] 24 := ⟨⟨Tryd.t22, _, by kernel_rfl, rfl, rfl, rfl, rfl⟩, Tryd.isAgg22, Tryd.sizeOf22, ⟨_, Tryd.zeroValue22, rfl⟩, ⟨_, Tryd.typeInfo22, rfl⟩⟩
instance hu22 : HasUnd Tryd.prog 22 := ⟨_, Tryd.runUnderlying22⟩
instance sl22 : SlTy Tryd.prog 22 38 := ⟨Tryd.runUnderlying22, Tryd.underlying22⟩
instance ty23 : Ty Tryd.prog 23 false 1 [.nilFunc] 8 := ⟨⟨Tryd.t23, _, by kernel_rfl, rfl, rfl, rfl, rfl⟩, Tryd.isAgg23, Tryd.sizeOf23, ⟨_, Tryd.zeroValue23, rfl⟩, ⟨_, Tryd.typeInfo23, rfl⟩⟩
instance hu23 : HasUnd Tryd.prog 23 := ⟨_, Tryd.runUnderlying23⟩
instance ty24 : Ty Tryd.prog 24 false 1 [.pointer none] 8 := ⟨⟨Tryd.t24, _, by kernel_rfl, rfl, rfl, rfl, rfl⟩, Tryd.isAgg24, Tryd.sizeOf24, ⟨_, Tryd.zeroValue24, rfl⟩, ⟨_, Tryd.typeInfo24, rfl⟩⟩
instance hu24 : HasUnd Tryd.prog 24 := ⟨_, Tryd.runUnderlying24⟩
instance pt24 : PtrTy Tryd.prog 24 58 := ⟨Tryd.runUnderlying24, Tryd.underlying24⟩
instance ty25 : Ty Tryd.prog 25 false 1 [.int .i64 0] 8 := ⟨⟨Tryd.t25, _, by kernel_rfl, rfl, rfl, rfl, rfl⟩, Tryd.isAgg25, Tryd.sizeOf25, ⟨_, Tryd.zeroValue25, rfl⟩, ⟨_, Tryd.typeInfo25, rfl⟩⟩
instance hu25 : HasUnd Tryd.prog 25 := ⟨_, Tryd.runUnderlying25⟩
instance it25 : IntTy Tryd.prog 25 .i64 := ⟨Tryd.runUnderlying25, Tryd.underlying25⟩
instance hu26 : HasUnd Tryd.prog 26 := ⟨_, Tryd.runUnderlying26⟩
instance ty27 : Ty Tryd.prog 27 false 1 [.nilFunc] 8 := ⟨⟨Tryd.t27, _, by kernel_rfl, rfl, rfl, rfl, rfl⟩, Tryd.isAgg27, Tryd.sizeOf27, ⟨_, Tryd.zeroValue27, rfl⟩, ⟨_, Tryd.typeInfo27, rfl⟩⟩
instance hu27 : HasUnd Tryd.prog 27 := ⟨_, Tryd.runUnderlying27⟩
instance ty28 : Ty Tryd.prog 28 false 1 [.map none] 8 := ⟨⟨Tryd.t28, _, by kernel_rfl, rfl, rfl, rfl, rfl⟩, Tryd.isAgg28, Tryd.sizeOf28, ⟨_, Tryd.zeroValue28, rfl⟩, ⟨_, Tryd.typeInfo28, rfl⟩⟩
instance hu28 : HasUnd Tryd.prog 28 := ⟨_, Tryd.runUnderlying28⟩
instance mt28 : MapTy Tryd.prog 28 30 30 := ⟨Tryd.runUnderlying28, Tryd.underlying28⟩
instance ty29 : Ty Tryd.prog 29 false 1 [.map none] 8 := ⟨⟨Tryd.t29, _, by kernel_rfl, rfl, rfl, rfl, rfl⟩, Tryd.isAgg29, Tryd.sizeOf29, ⟨_, Tryd.zeroValue29, rfl⟩, ⟨_, Tryd.typeInfo29, rfl⟩⟩
instance hu29 : HasUnd Tryd.prog 29 := ⟨_, Tryd.runUnderlying29⟩
instance mt29 : MapTy Tryd.prog 29 30 4 := ⟨Tryd.runUnderlying29, Tryd.underlying29⟩
instance ty30 : Ty Tryd.prog 30 false 1 [.int .u64 0] 8 := ⟨⟨Tryd.t30, _, by kernel_rfl, rfl, rfl, rfl, rfl⟩, Tryd.isAgg30, Tryd.sizeOf30, ⟨_, Tryd.zeroValue30, rfl⟩, ⟨_, Tryd.typeInfo30, rfl⟩⟩
instance hu30 : HasUnd Tryd.prog 30 := ⟨_, Tryd.runUnderlying30⟩
instance it30 : IntTy Tryd.prog 30 .u64 := ⟨Tryd.runUnderlying30, Tryd.underlying30⟩
instance ty31 : Ty Tryd.prog 31 false 1 [.slice none 0 0] 24 := ⟨⟨Tryd.t31, _, by kernel_rfl, rfl, rfl, rfl, rfl⟩, Tryd.isAgg31, Tryd.sizeOf31, ⟨_, Tryd.zeroValue31, rfl⟩, ⟨_, Tryd.typeInfo31, rfl⟩⟩
instance hu31 : HasUnd Tryd.prog 31 := ⟨_, Tryd.runUnderlying31⟩
instance sl31 : SlTy Tryd.prog 31 3 := ⟨Tryd.runUnderlying31, Tryd.underlying31⟩
instance ty32 : Ty Tryd.prog 32 false 1 [.slice none 0 0] 24 := ⟨⟨Tryd.t32, _, by kernel_rfl, rfl, rfl, rfl, rfl⟩, Tryd.isAgg32, Tryd.sizeOf32, ⟨_, Tryd.zeroValue32, rfl⟩, ⟨_, Tryd.typeInfo32, rfl⟩⟩
instance hu32 : HasUnd Tryd.prog 32 := ⟨_, Tryd.runUnderlying32⟩
instance sl32 : SlTy Tryd.prog 32 73 := ⟨Tryd.runUnderlying32, Tryd.underlying32⟩
instance ty33 : Ty Tryd.prog 33 false 1 [.slice none 0 0] 24 := ⟨⟨Tryd.t33, _, by kernel_rfl, rfl, rfl, rfl, rfl⟩, Tryd.isAgg33, Tryd.sizeOf33, ⟨_, Tryd.zeroValue33, rfl⟩, ⟨_, Tryd.typeInfo33, rfl⟩⟩
instance hu33 : HasUnd Tryd.prog 33 := ⟨_, Tryd.runUnderlying33⟩
instance sl33 : SlTy Tryd.prog 33 21 := ⟨Tryd.runUnderlying33, Tryd.underlying33⟩
instance ty34 : Ty Tryd.prog 34 false 1 [.slice none 0 0] 24 := ⟨⟨Tryd.t34, _, by kernel_rfl, rfl, rfl, rfl, rfl⟩, Tryd.isAgg34, Tryd.sizeOf34, ⟨_, Tryd.zeroValue34, rfl⟩, ⟨_, Tryd.typeInfo34, rfl⟩⟩
instance hu34 : HasUnd Tryd.prog 34 := ⟨_, Tryd.runUnderlying34⟩
instance sl34 : SlTy Tryd.prog 34 79 := ⟨Tryd.runUnderlying34, Tryd.underlying34⟩
instance ty35 : Ty Tryd.prog 35 true 16 [.int .u8 0, .int .u64 0, .int .u64 0, .int .u64 0, .int .u64 0, .int .u64 0, .int .u64 0, .int .u64 0, .int .i64 0, .int .i64 0, .int .i64 0, .int .i64 0, .slice none 0 0, .slice none 0 0, .slice none 0 0, .slice none 0 0] 192 := ⟨⟨Tryd.t35, _, by kernel_rfl, rfl, rfl, rfl, rfl⟩, Tryd.isAgg35, Tryd.sizeOf35, ⟨_, Tryd.zeroValue35, rfl⟩, ⟨_, Tryd.typeInfo35, rfl⟩⟩
instance hu35 : HasUnd Tryd.prog 35 := ⟨_, Tryd.runUnderlying35⟩
instance ss35 : StTy Tryd.prog 35 [(0, 1, false), (1, 1, false), (2, 1, false), (3, 1, false), (4, 1, false), (5, 1, false), (6, 1, false), (7, 1, false), (8, 1, false), (9, 1, false), (10, 1, false), (11, 1, false), (12, 1, false), (13, 1, false), (14, 1, false), (15, 1, false)] := ⟨_, Tryd.runUnderlying35, rfl, fun i off sz ag h => match i, h with
  | 0, h => by simp only [List.getElem?_cons_zero, List.getElem?_cons_succ, Option.some.injEq, Prod.mk.injEq] at h; obtain ⟨rfl, rfl, rfl⟩ := h; exact ⟨_, rfl, rfl, Tryd.sizeOf5, Tryd.isAgg5⟩
  | 1, h => by simp only [List.getElem?_cons_zero, List.getElem?_cons_succ, Option.some.injEq, Prod.mk.injEq] at h; obtain ⟨rfl, rfl, rfl⟩ := h; exact ⟨_, rfl, rfl, Tryd.sizeOf30, Tryd.isAgg30⟩
  | 2, h => by simp only [List.getElem?_cons_zero, List.getElem?_cons_succ, Option.some.injEq, Prod.mk.injEq] at h; obtain ⟨rfl, rfl, rfl⟩ := h; exact ⟨_, rfl, rfl, Tryd.sizeOf30, Tryd.isAgg30⟩
  | 3, h => by simp only [List.getElem?_cons_zero, List.getElem?_cons_succ, Option.some.injEq, Prod.mk.injEq] at h; obtain ⟨rfl, rfl, rfl⟩ := h; exact ⟨_, rfl, rfl, Tryd.sizeOf30, Tryd.isAgg30⟩
  | 4, h => by simp only [List.getElem?_cons_zero, List.getElem?_cons_succ, Option.some.injEq, Prod.mk.injEq] at h; obtain ⟨rfl, rfl, rfl⟩ := h; exact ⟨_, rfl, rfl, Tryd.sizeOf30, Tryd.isAgg30⟩
  | 5, h => by simp only [List.getElem?_cons_zero, List.getElem?_cons_succ, Option.some.injEq, Prod.mk.injEq] at h; obtain ⟨rfl, rfl, rfl⟩ := h; exact ⟨_, rfl, rfl, Tryd.sizeOf30, Tryd.isAgg30⟩
  | 6, h => by simp only [List.getElem?_cons_zero, List.getElem?_cons_succ, Option.some.injEq, Prod.mk.injEq] at h; obtain ⟨rfl, rfl, rfl⟩ := h; exact ⟨_, rfl, rfl, Tryd.sizeOf30, Tryd.isAgg30⟩
  | 7, h => by simp only [List.getElem?_cons_zero, List.getElem?_cons_succ, Option.some.injEq, Prod.mk.injEq] at h; obtain ⟨rfl, rfl, rfl⟩ := h; exact ⟨_, rfl, rfl, Tryd.sizeOf30, Tryd.isAgg30⟩
  | 8, h => by simp only [List.getElem?_cons_zero, List.getElem?_cons_succ, Option.some.injEq, Prod.mk.injEq] at h; obtain ⟨rfl, rfl, rfl⟩ := h; exact ⟨_, rfl, rfl, Tryd.sizeOf3, Tryd.isAgg3⟩
  | 9, h => by simp only [List.getElem?_cons_zero, List.getElem?_cons_succ, Option.some.injEq, Prod.mk.injEq] at h; obtain ⟨rfl, rfl, rfl⟩ := h; exact ⟨_, rfl, rfl, Tryd.sizeOf3, Tryd.isAgg3⟩
  | 10, h => by simp only [List.getElem?_cons_zero, List.getElem?_cons_succ, Option.some.injEq, Prod.mk.injEq] at h; obtain ⟨rfl, rfl, rfl⟩ := h; exact ⟨_, rfl, rfl, Tryd.sizeOf25, Tryd.isAgg25⟩
  | 11, h => by simp only [List.getElem?_cons_zero, List.getElem?_cons_succ, Option.some.injEq, Prod.mk.injEq] at h; obtain ⟨rfl, rfl, rfl⟩ := h; exact ⟨_, rfl, rfl, Tryd.sizeOf3, Tryd.isAgg3⟩
  | 12, h => by simp only [List.getElem?_cons_zero, List.getElem?_cons_succ, Option.some.injEq, Prod.mk.injEq] at h; obtain ⟨rfl, rfl, rfl⟩ := h; exact ⟨_, rfl, rfl, Tryd.sizeOf31, Tryd.isAgg31⟩
  | 13, h => by simp only [List.getElem?_cons_zero, List.getElem?_cons_succ, Option.some.injEq, Prod.mk.injEq] at h; obtain ⟨rfl, rfl, rfl⟩ := h; exact ⟨_, rfl, rfl, Tryd.sizeOf32, Tryd.isAgg32⟩
  | 14, h => by simp only [List.getElem?_cons_zero, List.getElem?_cons_succ, Option.some.injEq, Prod.mk.injEq] at h; obtain ⟨rfl, rfl, rfl⟩ := h; exact ⟨_, rfl, rfl, Tryd.sizeOf33, Tryd.isAgg33⟩
  | 15, h => by simp only [List.getElem?_cons_zero, List.getElem?_cons_succ, Option.some.injEq, Prod.mk.injEq] at h; obtain ⟨rfl, rfl, rfl⟩ := h; exact ⟨_, rfl, rfl, Tryd.sizeOf34, Tryd.isAgg34⟩
  | (i + 16), h => by simp at h⟩
instance ty36 : Ty Tryd.prog 36 true 16 [.int .u8 0, .int .u64 0, .int .u64 0, .int .u64 0, .int .u64 0, .int .u64 0, .int .u64 0, .int .u64 0, .int .i64 0, .int .i64 0, .int .i64 0, .int .i64 0, .slice none 0 0, .slice none 0 0, .slice none 0 0, .slice none 0 0] 192 := ⟨⟨Tryd.t36, _, by kernel_rfl, rfl, rfl, rfl, rfl⟩, Tryd.isAgg36, Tryd.sizeOf36, ⟨_, Tryd.zeroValue36, rfl⟩, ⟨_, Tryd.typeInfo36, rfl⟩⟩
instance hu36 : HasUnd Tryd.prog 36 := ⟨_, Tryd.runUnderlying36⟩
instance ss36 : StTy Tryd.prog 36 [(0, 1, false), (1, 1, false), (2, 1, false), (3, 1, false), (4, 1, false), (5, 1, false), (6, 1, false), (7, 1, false), (8, 1, false), (9, 1, false), (10, 1, false), (11, 1, false), (12, 1, false), (13, 1, false), (14, 1, false), (15, 1, false)] := ⟨_, Tryd.runUnderlying36, rfl, fun i off sz ag h => match i, h with
  | 0, h => by simp only [List.getElem?_cons_zero, List.getElem?_cons_succ, Option.some.injEq, Prod.mk.injEq] at h; obtain ⟨rfl, rfl, rfl⟩ := h; exact ⟨_, rfl, rfl, Tryd.sizeOf5, Tryd.isAgg5⟩
  | 1, h => by simp only [List.getElem?_cons_zero, List.getElem?_cons_succ, Option.some.injEq, Prod.mk.injEq] at h; obtain ⟨rfl, rfl, rfl⟩ := h; exact ⟨_, rfl, rfl, Tryd.sizeOf30, Tryd.isAgg30⟩
  | 2, h => by simp only [List.getElem?_cons_zero, List.getElem?_cons_succ, Option.some.injEq, Prod.mk.injEq] at h; obtain ⟨rfl, rfl, rfl⟩ := h; exact ⟨_, rfl, rfl, Tryd.sizeOf30, Tryd.isAgg30⟩
  | 3, h => by simp only [List.getElem?_cons_zero, List.getElem?_cons_succ, Option.some.injEq, Prod.mk.injEq] at h; obtain ⟨rfl, rfl, rfl⟩ := h; exact ⟨_, rfl, rfl, Tryd.sizeOf30, Tryd.isAgg30⟩
  | 4, h => by simp only [List.getElem?_cons_zero, List.getElem?_cons_succ, Option.some.injEq, Prod.mk.injEq] at h; obtain ⟨rfl, rfl, rfl⟩ := h; exact ⟨_, rfl, rfl, Tryd.sizeOf30, Tryd.isAgg30⟩
  | 5, h => by simp only [List.getElem?_cons_zero, List.getElem?_cons_succ, Option.some.injEq, Prod.mk.injEq] at h; obtain ⟨rfl, rfl, rfl⟩ := h; exact ⟨_, rfl, rfl, Tryd.sizeOf30, Tryd.isAgg30⟩
  | 6, h => by simp only [List.getElem?_cons_zero, List.getElem?_cons_succ, Option.some.injEq, Prod.mk.injEq] at h; obtain ⟨rfl, rfl, rfl⟩ := h; exact ⟨_, rfl, rfl, Tryd.sizeOf30, Tryd.isAgg30⟩
  | 7, h => by simp only [List.getElem?_cons_zero, List.getElem?_cons_succ, Option.some.injEq, Prod.mk.injEq] at h; obtain ⟨rfl, rfl, rfl⟩ := h; exact ⟨_, rfl, rfl, Tryd.sizeOf30, Tryd.isAgg30⟩
  | 8, h => by simp only [List.getElem?_cons_zero, List.getElem?_cons_succ, Option.some.injEq, Prod.mk.injEq] at h; obtain ⟨rfl, rfl, rfl⟩ := h; exact ⟨_, rfl, rfl, Tryd.sizeOf3, Tryd.isAgg3⟩
  | 9, h => by simp only [List.getElem?_cons_zero, List.getElem?_cons_succ, Option.some.injEq, Prod.mk.injEq] at h; obtain ⟨rfl, rfl, rfl⟩ := h; exact ⟨_, rfl, rfl, Tryd.sizeOf3, Tryd.isAgg3⟩
  | 10, h => by simp only [List.getElem?_cons_zero, List.getElem?_cons_succ, Option.some.injEq, Prod.mk.injEq] at h; obtain ⟨rfl, rfl, rfl⟩ := h; exact ⟨_, rfl, rfl, Tryd.sizeOf25, Tryd.isAgg25⟩
  | 11, h => by simp only [List.getElem?_cons_zero, List.getElem?_cons_succ, Option.some.injEq, Prod.mk.injEq] at h; obtain ⟨rfl, rfl, rfl⟩ := h; exact ⟨_, rfl, rfl, Tryd.sizeOf3, Tryd.isAgg3⟩
  | 12, h => by simp only [List.getElem?_cons_zero, List.getElem?_cons_succ, Option.some.injEq, Prod.mk.injEq] at h; obtain ⟨rfl, rfl, rfl⟩ := h; exact ⟨_, rfl, rfl, Tryd.sizeOf31, Tryd.isAgg31⟩
  | 13, h => by simp only [List.getElem?_cons_zero, List.getElem?_cons_succ, Option.some.injEq, Prod.mk.injEq] at h; obtain ⟨rfl, rfl, rfl⟩ := h; exact ⟨_, rfl, rfl, Tryd.sizeOf32, Tryd.isAgg32⟩
  | 14, h => by simp only [List.getElem?_cons_zero, List.getElem?_cons_succ, Option.some.injEq, Prod.mk.injEq] at h; obtain ⟨rfl, rfl, rfl⟩ := h; exact ⟨_, rfl, rfl, Tryd.sizeOf33, Tryd.isAgg33⟩
  | 15, h => by simp only [List.getElem?_cons_zero, List.getElem?_cons_succ, Option.some.injEq, Prod.mk.injEq] at h; obtain ⟨rfl, rfl, rfl⟩ := h; exact ⟨_, rfl, rfl, Tryd.sizeOf34, Tryd.isAgg34⟩
  | (i + 16), h => by simp at h⟩
instance ty37 : Ty Tryd.prog 37 true 21 [.int .i64 0, .int .u8 0, .int .u64 0, .int .u64 0, .int .u64 0, .int .u64 0, .int .u64 0, .int .u64 0, .int .u64 0, .int .i64 0, .int .i64 0, .int .i64 0, .int .i64 0, .slice none 0 0, .slice none 0 0, .slice none 0 0, .slice none 0 0, .bool false, .bool false, .int .u64 0, .int .u64 0] 224 := ⟨⟨Tryd.t37, _, by kernel_rfl, rfl, rfl, rfl, rfl⟩, Tryd.isAgg37, Tryd.sizeOf37, ⟨_, Tryd.zeroValue37, rfl⟩, ⟨_, Tryd.typeInfo37, rfl⟩⟩
instance hu37 : HasUnd Tryd.prog 37 := ⟨_, Tryd.runUnderlying37⟩
instance ss37 : StTy Tryd.prog 37 [(0, 1, false), (1, 16, true), (17, 1, false), (18, 1, false), (19, 1, false), (20, 1, false)] := ⟨_, Tryd.runUnderlying37, rfl, fun i off sz ag h => match i, h with
  | 0, h => by simp only [List.getElem?_cons_zero, List.getElem?_cons_succ, Option.some.injEq, Prod.mk.injEq] at h; obtain ⟨rfl, rfl, rfl⟩ := h; exact ⟨_, rfl, rfl, Tryd.sizeOf3, Tryd.isAgg3⟩
  | 1, h => by simp only [List.getElem?_cons_zero, List.getElem?_cons_succ, Option.some.injEq, Prod.mk.injEq] at h; obtain ⟨rfl, rfl, rfl⟩ := h; exact ⟨_, rfl, rfl, Tryd.sizeOf36, Tryd.isAgg36⟩
  | 2, h => by simp only [List.getElem?_cons_zero, List.getElem?_cons_succ, Option.some.injEq, Prod.mk.injEq] at h; obtain ⟨rfl, rfl, rfl⟩ := h; exact ⟨_, rfl, rfl, Tryd.sizeOf4, Tryd.isAgg4⟩
  | 3, h => by simp only [List.getElem?_cons_zero, List.getElem?_cons_succ, Option.some.injEq, Prod.mk.injEq] at h; obtain ⟨rfl, rfl, rfl⟩ := h; exact ⟨_, rfl, rfl, Tryd.sizeOf4, Tryd.isAgg4⟩
  | 4, h => by simp only [List.getElem?_cons_zero, List.getElem?_cons_succ, Option.some.injEq, Prod.mk.injEq] at h; obtain ⟨rfl, rfl, rfl⟩ := h; exact ⟨_, rfl, rfl, Tryd.sizeOf30, Tryd.isAgg30⟩
  | 5, h => by simp only [List.getElem?_cons_zero, List.getElem?_cons_succ, Option.some.injEq, Prod.mk.injEq] at h; obtain ⟨rfl, rfl, rfl⟩ := h; exact ⟨_, rfl, rfl, Tryd.sizeOf30, Tryd.isAgg30⟩
  | (i + 6), h => by simp at h⟩
instance ty38 : Ty Tryd.prog 38 true 21 [.int .i64 0, .int .u8 0, .int .u64 0, .int .u64 0, .int .u64 0, .int .u64 0, .int .u64 0, .int .u64 0, .int .u64 0, .int .i64 0, .int .i64 0, .int .i64 0, .int .i64 0, .slice none 0 0, .slice none 0 0, .slice none 0 0, .slice none 0 0, .bool false, .bool false, .int .u64 0, .int .u64 0] 224 := ⟨⟨Tryd.t38, _, by kernel_rfl, rfl, rfl, rfl, rfl⟩, Tryd.isAgg38, Tryd.sizeOf38, ⟨_, Tryd.zeroValue38, rfl⟩, ⟨_, Tryd.typeInfo38, rfl⟩⟩
instance hu38 : HasUnd Tryd.prog 38 := ⟨_, Tryd.runUnderlying38⟩
instance ss38 : StTy Tryd.prog 38 [(0, 1, false), (1, 16, true), (17, 1, false), (18, 1, false), (19, 1, false), (20, 1, false)] := ⟨_, Tryd.runUnderlying38, rfl, fun i off sz ag h => match i, h with
  | 0, h => by simp only [List.getElem?_cons_zero, List.getElem?_cons_succ, Option.some.injEq, Prod.mk.injEq] at h; obtain ⟨rfl, rfl, rfl⟩ := h; exact ⟨_, rfl, rfl, Tryd.sizeOf3, Tryd.isAgg3⟩
  | 1, h => by simp only [List.getElem?_cons_zero, List.getElem?_cons_succ, Option.some.injEq, Prod.mk.injEq] at h; obtain ⟨rfl, rfl, rfl⟩ := h; exact ⟨_, rfl, rfl, Tryd.sizeOf36, Tryd.isAgg36⟩
  | 2, h => by simp only [List.getElem?_cons_zero, List.getElem?_cons_succ, Option.some.injEq, Prod.mk.injEq] at h; obtain ⟨rfl, rfl, rfl⟩ := h; exact ⟨_, rfl, rfl, Tryd.sizeOf4, Tryd.isAgg4⟩
  | 3, h => by simp only [List.getElem?_cons_zero, List.getElem?_cons_succ, Option.some.injEq, Prod.mk.injEq] at h; obtain ⟨rfl, rfl, rfl⟩ := h; exact ⟨_, rfl, rfl, Tryd.sizeOf4, Tryd.isAgg4⟩
  | 4, h => by simp only [List.getElem?_cons_zero, List.getElem?_cons_succ, Option.some.injEq, Prod.mk.injEq] at h; obtain ⟨rfl, rfl, rfl⟩ := h; exact ⟨_, rfl, rfl, Tryd.sizeOf30, Tryd.isAgg30⟩
  | 5, h => by simp only [List.getElem?_cons_zero, List.getElem?_cons_succ, Option.some.injEq, Prod.mk.injEq] at h; obtain ⟨rfl, rfl, rfl⟩ := h; exact ⟨_, rfl, rfl, Tryd.sizeOf30, Tryd.isAgg30⟩
  | (i + 6), h => by simp at h⟩
instance ty39 : Ty Tryd.prog 39 true 16 [.int .u8 0, .int .u64 0, .int .u64 0, .int .u64 0, .int .u64 0, .int .u64 0, .int .u64 0, .int .u64 0, .int .i64 0, .int .i64 0, .int .i64 0, .int .i64 0, .slice none 0 0, .slice none 0 0, .slice none 0 0, .slice none 0 0] 192 := ⟨⟨Tryd.t39, _, by kernel_rfl, rfl, rfl, rfl, rfl⟩, Tryd.isAgg39, Tryd.sizeOf39, ⟨_, Tryd.zeroValue39, rfl⟩, ⟨_, Tryd.typeInfo39, rfl⟩⟩
instance hu39 : HasUnd Tryd.prog 39 := ⟨_, Tryd.runUnderlying39⟩
instance ss39 : StTy Tryd.prog 39 [(0, 1, false), (1, 1, false), (2, 1, false), (3, 1, false), (4, 1, false), (5, 1, false), (6, 1, false), (7, 1, false), (8, 1, false), (9, 1, false), (10, 1, false), (11, 1, false), (12, 1, false), (13, 1, false), (14, 1, false), (15, 1, false)] := ⟨_, Tryd.runUnderlying39, rfl, fun i off sz ag h => match i, h with
  | 0, h => by simp only [List.getElem?_cons_zero, List.getElem?_cons_succ, Option.some.injEq, Prod.mk.injEq] at h; obtain ⟨rfl, rfl, rfl⟩ := h; exact ⟨_, rfl, rfl, Tryd.sizeOf5, Tryd.isAgg5⟩
  | 1, h => by simp only [List.getElem?_cons_zero, List.getElem?_cons_succ, Option.some.injEq, Prod.mk.injEq] at h; obtain ⟨rfl, rfl, rfl⟩ := h; exact ⟨_, rfl, rfl, Tryd.sizeOf30, Tryd.isAgg30⟩
  | 2, h => by simp only [List.getElem?_cons_zero, List.getElem?_cons_succ, Option.some.injEq, Prod.mk.injEq] at h; obtain ⟨rfl, rfl, rfl⟩ := h; exact ⟨_, rfl, rfl, Tryd.sizeOf30, Tryd.isAgg30⟩
  | 3, h => by simp only [List.getElem?_cons_zero, List.getElem?_cons_succ, Option.some.injEq, Prod.mk.injEq] at h; obtain ⟨rfl, rfl, rfl⟩ := h; exact ⟨_, rfl, rfl, Tryd.sizeOf30, Tryd.isAgg30⟩
  | 4, h => by simp only [List.getElem?_cons_zero, List.getElem?_cons_succ, Option.some.injEq, Prod.mk.injEq] at h; obtain ⟨rfl, rfl, rfl⟩ := h; exact ⟨_, rfl, rfl, Tryd.sizeOf30, Tryd.isAgg30⟩
  | 5, h => by simp only [List.getElem?_cons_zero, List.getElem?_cons_succ, Option.some.injEq, Prod.mk.injEq] at h; obtain ⟨rfl, rfl, rfl⟩ := h; exact ⟨_, rfl, rfl, Tryd.sizeOf30, Tryd.isAgg30⟩
  | 6, h => by simp only [List.getElem?_cons_zero, List.getElem?_cons_succ, Option.some.injEq, Prod.mk.injEq] at h; obtain ⟨rfl, rfl, rfl⟩ := h; exact ⟨_, rfl, rfl, Tryd.sizeOf30, Tryd.isAgg30⟩
  | 7, h => by simp only [List.getElem?_cons_zero, List.getElem?_cons_succ, Option.some.injEq, Prod.mk.injEq] at h; obtain ⟨rfl, rfl, rfl⟩ := h; exact ⟨_, rfl, rfl, Tryd.sizeOf30, Tryd.isAgg30⟩
  | 8, h => by simp only [List.getElem?_cons_zero, List.getElem?_cons_succ, Option.some.injEq, Prod.mk.injEq] at h; obtain ⟨rfl, rfl, rfl⟩ := h; exact ⟨_, rfl, rfl, Tryd.sizeOf3, Tryd.isAgg3⟩
  | 9, h => by simp only [List.getElem?_cons_zero, List.getElem?_cons_succ, Option.some.injEq, Prod.mk.injEq] at h; obtain ⟨rfl, rfl, rfl⟩ := h; exact ⟨_, rfl, rfl, Tryd.sizeOf3, Tryd.isAgg3⟩
  | 10, h => by simp only [List.getElem?_cons_zero, List.getElem?_cons_succ, Option.some.injEq, Prod.mk.injEq] at h; obtain ⟨rfl, rfl, rfl⟩ := h; exact ⟨_, rfl, rfl, Tryd.sizeOf25, Tryd.isAgg25⟩
  | 11, h => by simp only [List.getElem?_cons_zero, List.getElem?_cons_succ, Option.some.injEq, Prod.mk.injEq] at h; obtain ⟨rfl, rfl, rfl⟩ := h; exact ⟨_, rfl, rfl, Tryd.sizeOf3, Tryd.isAgg3⟩
  | 12, h => by simp only [List.getElem?_cons_zero, List.getElem?_cons_succ, Option.some.injEq, Prod.mk.injEq] at h; obtain ⟨rfl, rfl, rfl⟩ := h; exact ⟨_, rfl, rfl, Tryd.sizeOf31, Tryd.isAgg31⟩
  | 13, h => by simp only [List.getElem?_cons_zero, List.getElem?_cons_succ, Option.some.injEq, Prod.mk.injEq] at h; obtain ⟨rfl, rfl, rfl⟩ := h; exact ⟨_, rfl, rfl, Tryd.sizeOf32, Tryd.isAgg32⟩
  | 14, h => by simp only [List.getElem?_cons_zero, List.getElem?_cons_succ, Option.some.injEq, Prod.mk.injEq] at h; obtain ⟨rfl, rfl, rfl⟩ := h; exact ⟨_, rfl, rfl, Tryd.sizeOf33, Tryd.isAgg33⟩
  | 15, h => by simp only [List.getElem?_cons_zero, List.getElem?_cons_succ, Option.some.injEq, Prod.mk.injEq] at h; obtain ⟨rfl, rfl, rfl⟩ := h; exact ⟨_, rfl, rfl, Tryd.sizeOf34, Tryd.isAgg34⟩
  | (i + 16), h => by simp at h⟩
instance ty40 : Ty Tryd.prog 40 false 1 [.nilFunc] 8 := ⟨⟨Tryd.t40, _, by kernel_rfl, rfl, rfl, rfl, rfl⟩, Tryd.isAgg40, Tryd.sizeOf40, ⟨_, Tryd.zeroValue40, rfl⟩, ⟨_, Tryd.typeInfo40, rfl⟩⟩
instance hu40 : HasUnd Tryd.prog 40 := ⟨_, Tryd.runUnderlying40⟩
instance ty41 : Ty Tryd.prog 41 false 1 [.slice none 0 0] 24 := ⟨⟨Tryd.t41, _, by kernel_rfl, rfl, rfl, rfl, rfl⟩, Tryd.isAgg41, Tryd.sizeOf41, ⟨_, Tryd.zeroValue41, rfl⟩, ⟨_, Tryd.typeInfo41, rfl⟩⟩
instance hu41 : HasUnd Tryd.prog 41 := ⟨_, Tryd.runUnderlying41⟩
instance sl41 : SlTy Tryd.prog 41 39 := ⟨Tryd.runUnderlying41, Tryd.underlying41⟩
instance ty42 : Ty Tryd.prog 42 false 1 [.slice none 0 0] 24 := ⟨⟨Tryd.t42, _, by kernel_rfl, rfl, rfl, rfl, rfl⟩, Tryd.isAgg42, Tryd.sizeOf42, ⟨_, Tryd.zeroValue42, rfl⟩, ⟨_, Tryd.typeInfo42, rfl⟩⟩
instance hu42 : HasUnd Tryd.prog 42 := ⟨_, Tryd.runUnderlying42⟩
instance sl42 : SlTy Tryd.prog 42 52 := ⟨Tryd.runUnderlying42, Tryd.underlying42⟩
instance ty43 : Ty Tryd.prog 43 true 3 [.slice none 0 0, .slice none 0 0, .slice none 0 0] 72 := ⟨⟨Tryd.t43, _, by kernel_rfl, rfl, rfl, rfl, rfl⟩, Tryd.isAgg43, Tryd.sizeOf43, ⟨_, Tryd.zeroValue43, rfl⟩, ⟨_, Tryd.typeInfo43, rfl⟩⟩
instance hu43 : HasUnd Tryd.prog 43 := ⟨_, Tryd.runUnderlying43⟩
instance ss43 : StTy Tryd.prog 43 [(0, 1, false), (1, 1, false), (2, 1, false)] := ⟨_, Tryd.runUnderlying43, rfl, fun i off sz ag h => match i, h with
  | 0, h => by simp only [List.getElem?_cons_zero, List.getElem?_cons_succ, Option.some.injEq, Prod.mk.injEq] at h; obtain ⟨rfl, rfl, rfl⟩ := h; exact ⟨_, rfl, rfl, Tryd.sizeOf41, Tryd.isAgg41⟩
  | 1, h => by simp only [List.getElem?_cons_zero, List.getElem?_cons_succ, Option.some.injEq, Prod.mk.injEq] at h; obtain ⟨rfl, rfl, rfl⟩ := h; exact ⟨_, rfl, rfl, Tryd.sizeOf42, Tryd.isAgg42⟩
  | 2, h => by simp only [List.getElem?_cons_zero, List.getElem?_cons_succ, Option.some.injEq, Prod.mk.injEq] at h; obtain ⟨rfl, rfl, rfl⟩ := h; exact ⟨_, rfl, rfl, Tryd.sizeOf42, Tryd.isAgg42⟩
  | (i + 3), h => by simp at h⟩
instance ty44 : Ty Tryd.prog 44 true 3 [.slice none 0 0, .slice none 0 0, .slice none 0 0] 72 := ⟨⟨Tryd.t44, _, by kernel_rfl, rfl, rfl, rfl, rfl⟩, Tryd.isAgg44, Tryd.sizeOf44, ⟨_, Tryd.zeroValue44, rfl⟩, ⟨_, Tryd.typeInfo44, rfl⟩⟩
instance hu44 : HasUnd Tryd.prog 44 := ⟨_, Tryd.runUnderlying44⟩
instance ss44 : StTy Tryd.prog 44 [(0, 1, false), (1, 1, false), (2, 1, false)] := ⟨_, Tryd.runUnderlying44, rfl, fun i off sz ag h => match i, h with
  | 0, h => by simp only [List.getElem?_cons_zero, List.getElem?_cons_succ, Option.some.injEq, Prod.mk.injEq] at h; obtain ⟨rfl, rfl, rfl⟩ := h; exact ⟨_, rfl, rfl, Tryd.sizeOf41, Tryd.isAgg41⟩
  | 1, h => by simp only [List.getElem?_cons_zero, List.getElem?_cons_succ, Option.some.injEq, Prod.mk.injEq] at h; obtain ⟨rfl, rfl, rfl⟩ := h; exact ⟨_, rfl, rfl, Tryd.sizeOf42, Tryd.isAgg42⟩
  | 2, h => by simp only [List.getElem?_cons_zero, List.getElem?_cons_succ, Option.some.injEq, Prod.mk.injEq] at h; obtain ⟨rfl, rfl, rfl⟩ := h; exact ⟨_, rfl, rfl, Tryd.sizeOf42, Tryd.isAgg42⟩
  | (i + 3), h => by simp at h⟩
instance ty45 : Ty Tryd.prog 45 false 1 [.nilFunc] 8 := ⟨⟨Tryd.t45, _, by kernel_rfl, rfl, rfl, rfl, rfl⟩, Tryd.isAgg45, Tryd.sizeOf45, ⟨_, Tryd.zeroValue45, rfl⟩, ⟨_, Tryd.typeInfo45, rfl⟩⟩
instance hu45 : HasUnd Tryd.prog 45 := ⟨_, Tryd.runUnderlying45⟩
instance ty46 : Ty Tryd.prog 46 false 1 [.nilFunc] 8 := ⟨⟨Tryd.t46, _, by kernel_rfl, rfl, rfl, rfl, rfl⟩, Tryd.isAgg46, Tryd.sizeOf46, ⟨_, Tryd.zeroValue46, rfl⟩, ⟨_, Tryd.typeInfo46, rfl⟩⟩
instance hu46 : HasUnd Tryd.prog 46 := ⟨_, Tryd.runUnderlying46⟩
instance hu47 : HasUnd Tryd.prog 47 := ⟨_, Tryd.runUnderlying47⟩
instance ty48 : Ty Tryd.prog 48 false 1 [.nilFunc] 8 := ⟨⟨Tryd.t48, _, by kernel_rfl, rfl, rfl, rfl, rfl⟩, Tryd.isAgg48, Tryd.sizeOf48, ⟨_, Tryd.zeroValue48, rfl⟩, ⟨_, Tryd.typeInfo48, rfl⟩⟩
instance hu48 : HasUnd Tryd.prog 48 := ⟨_, Tryd.runUnderlying48⟩
instance ty49 : Ty Tryd.prog 49 false 1 [.nilFunc] 8 := ⟨⟨Tryd.t49, _, by kernel_rfl, rfl, rfl, rfl, rfl⟩, Tryd.isAgg49, Tryd.sizeOf49, ⟨_, Tryd.zeroValue49, rfl⟩, ⟨_, Tryd.typeInfo49, rfl⟩⟩
instance hu49 : HasUnd Tryd.prog 49 := ⟨_, Tryd.runUnderlying49⟩
instance ty50 : Ty Tryd.prog 50 false 1 [.nilFunc] 8 := ⟨⟨Tryd.t50, _, by kernel_rfl, rfl, rfl, rfl, rfl⟩, Tryd.isAgg50, Tryd.sizeOf50, ⟨_, Tryd.zeroValue50, rfl⟩, ⟨_, Tryd.typeInfo50, rfl⟩⟩
instance hu50 : HasUnd Tryd.prog 50 := ⟨_, Tryd.runUnderlying50⟩
instance ty51 : Ty Tryd.prog 51 true 17 [.int .i64 0, .int .u8 0, .int .u64 0, .int .u64 0, .int .u64 0, .int .u64 0, .int .u64 0, .int .u64 0, .int .u64 0, .int .i64 0, .int .i64 0, .int .i64 0, .int .i64 0, .slice none 0 0, .slice none 0 0, .slice none 0 0, .slice none 0 0] 200 := ⟨⟨Tryd.t51, _, by kernel_rfl, rfl, rfl, rfl, rfl⟩, Tryd.isAgg51, Tryd.sizeOf51, ⟨_, Tryd.zeroValue51, rfl⟩, ⟨_, Tryd.typeInfo51, rfl⟩⟩
instance hu51 : HasUnd Tryd.prog 51 := ⟨_, Tryd.runUnderlying51⟩
instance ss51 : StTy Tryd.prog 51 [(0, 1, false), (1, 16, true)] := ⟨_, Tryd.runUnderlying51, rfl, fun i off sz ag h => match i, h with
  | 0, h => by simp only [List.getElem?_cons_zero, List.getElem?_cons_succ, Option.some.injEq, Prod.mk.injEq] at h; obtain ⟨rfl, rfl, rfl⟩ := h; exact ⟨_, rfl, rfl, Tryd.sizeOf3, Tryd.isAgg3⟩
  | 1, h => by simp only [List.getElem?_cons_zero, List.getElem?_cons_succ, Option.some.injEq, Prod.mk.injEq] at h; obtain ⟨rfl, rfl, rfl⟩ := h; exact ⟨_, rfl, rfl, Tryd.sizeOf39, Tryd.isAgg39⟩
  | (i + 2), h => by simp at h⟩
instance ty52 : Ty Tryd.prog 52 true 17 [.int .i64 0, .int .u8 0, .int .u64 0, .int .u64 0, .int .u64 0, .int .u64 0, .int .u64 0, .int .u64 0, .int .u64 0, .int .i64 0, .int .i64 0, .int .i64 0, .int .i64 0, .slice none 0 0, .slice none 0 0, .slice none 0 0, .slice none 0 0] 200 := ⟨⟨Tryd.t52, _, by kernel_rfl, rfl, rfl, rfl, rfl⟩, Tryd.isAgg52, Tryd.sizeOf52, ⟨_, Tryd.zeroValue52, rfl⟩, ⟨_, Tryd.typeInfo52, rfl⟩⟩
instance hu52 : HasUnd Tryd.prog 52 := ⟨_, Tryd.runUnderlying52⟩
instance ss52 : StTy Tryd.prog 52 [(0, 1, false), (1, 16, true)] := ⟨_, Tryd.runUnderlying52, rfl, fun i off sz ag h => match i, h with
  | 0, h => by simp only [List.getElem?_cons_zero, List.getElem?_cons_succ, Option.some.injEq, Prod.mk.injEq] at h; obtain ⟨rfl, rfl, rfl⟩ := h; exact ⟨_, rfl, rfl, Tryd.sizeOf3, Tryd.isAgg3⟩
  | 1, h => by simp only [List.getElem?_cons_zero, List.getElem?_cons_succ, Option.some.injEq, Prod.mk.injEq] at h; obtain ⟨rfl, rfl, rfl⟩ := h; exact ⟨_, rfl, rfl, Tryd.sizeOf39, Tryd.isAgg39⟩
  | (i + 2), h => by simp at h⟩
instance ty53 : Ty Tryd.prog 53 false 1 [.pointer none] 8 := ⟨⟨Tryd.t53, _, by kernel_rfl, rfl, rfl, rfl, rfl⟩, Tryd.isAgg53, Tryd.sizeOf53, ⟨_, Tryd.zeroValue53, rfl⟩, ⟨_, Tryd.typeInfo53, rfl⟩⟩
instance hu53 : HasUnd Tryd.prog 53 := ⟨_, Tryd.runUnderlying53⟩
instance pt53 : PtrTy Tryd.prog 53 77 := ⟨Tryd.runUnderlying53, Tryd.underlying53⟩
instance hu54 : HasUnd Tryd.prog 54 := ⟨_, Tryd.runUnderlying54⟩
instance ty55 : Ty Tryd.prog 55 false 1 [.nilFunc] 8 := ⟨⟨Tryd.t55, _, by kernel_rfl, rfl, rfl, rfl, rfl⟩, Tryd.isAgg55, Tryd.sizeOf55, ⟨_, Tryd.zeroValue55, rfl⟩, ⟨_, Tryd.typeInfo55, rfl⟩⟩
instance hu55 : HasUnd Tryd.prog 55 := ⟨_, Tryd.runUnderlying55⟩
instance ty56 : Ty Tryd.prog 56 false 1 [.map none] 8 := ⟨⟨Tryd.t56, _, by kernel_rfl, rfl, rfl, rfl, rfl⟩, Tryd.isAgg56, Tryd.sizeOf56, ⟨_, Tryd.zeroValue56, rfl⟩, ⟨_, Tryd.typeInfo56, rfl⟩⟩
instance hu56 : HasUnd Tryd.prog 56 := ⟨_, Tryd.runUnderlying56⟩
instance mt56 : MapTy Tryd.prog 56 30 31 := ⟨Tryd.runUnderlying56, Tryd.underlying56⟩
instance ty57 : Ty Tryd.prog 57 true 5 [.pointer none, .int .i64 0, .int .i64 0, .map none, .map none] 40 := ⟨⟨Tryd.t57, _, by kernel_rfl, rfl, rfl, rfl, rfl⟩, Tryd.isAgg57, Tryd.sizeOf57, ⟨_, Tryd.zeroValue57, rfl⟩, ⟨_, Tryd.typeInfo57, rfl⟩⟩
instance hu57 : HasUnd Tryd.prog 57 := ⟨_, Tryd.runUnderlying57⟩
instance ss57 : StTy Tryd.prog 57 [(0, 1, false), (1, 1, false), (2, 1, false), (3, 1, false), (4, 1, false)] := ⟨_, Tryd.runUnderlying57, rfl, fun i off sz ag h => match i, h with
  | 0, h => by simp only [List.getElem?_cons_zero, List.getElem?_cons_succ, Option.some.injEq, Prod.mk.injEq] at h; obtain ⟨rfl, rfl, rfl⟩ := h; exact ⟨_, rfl, rfl, Tryd.sizeOf53, Tryd.isAgg53⟩
  | 1, h => by simp only [List.getElem?_cons_zero, List.getElem?_cons_succ, Option.some.injEq, Prod.mk.injEq] at h; obtain ⟨rfl, rfl, rfl⟩ := h; exact ⟨_, rfl, rfl, Tryd.sizeOf3, Tryd.isAgg3⟩
  | 2, h => by simp only [List.getElem?_cons_zero, List.getElem?_cons_succ, Option.some.injEq, Prod.mk.injEq] at h; obtain ⟨rfl, rfl, rfl⟩ := h; exact ⟨_, rfl, rfl, Tryd.sizeOf3, Tryd.isAgg3⟩
  | 3, h => by simp only [List.getElem?_cons_zero, List.getElem?_cons_succ, Option.some.injEq, Prod.mk.injEq] at h; obtain ⟨rfl, rfl, rfl⟩ := h; exact ⟨_, rfl, rfl, Tryd.sizeOf56, Tryd.isAgg56⟩
  | 4, h => by simp only [List.getElem?_cons_zero, List.getElem?_cons_succ, Option.some.injEq, Prod.mk.injEq] at h; obtain ⟨rfl, rfl, rfl⟩ := h; exact ⟨_, rfl, rfl, Tryd.sizeOf28, Tryd.isAgg28⟩
  | (i + 5), h => by simp at h⟩
instance ty58 : Ty Tryd.prog 58 true 5 [.pointer none, .int .i64 0, .int .i64 0, .map none, .map none] 40 := ⟨⟨Tryd.t58, _, by kernel_rfl, rfl, rfl, rfl, rfl⟩, Tryd.isAgg58, Tryd.sizeOf58, ⟨_, Tryd.zeroValue58, rfl⟩, ⟨_, Tryd.typeInfo58, rfl⟩⟩
instance hu58 : HasUnd Tryd.prog 58 := ⟨_, Tryd.runUnderlying58⟩
instance ss58 : StTy Tryd.prog 58 [(0, 1, false), (1, 1, false), (2, 1, false), (3, 1, false), (4, 1, false)] := ⟨_, Tryd.runUnderlying58, rfl, fun i off sz ag h => match i, h with
  | 0, h => by simp only [List.getElem?_cons_zero, List.getElem?_cons_succ, Option.some.injEq, Prod.mk.injEq] at h; obtain ⟨rfl, rfl, rfl⟩ := h; exact ⟨_, rfl, rfl, Tryd.sizeOf53, Tryd.isAgg53⟩
  | 1, h => by simp only [List.getElem?_cons_zero, List.getElem?_cons_succ, Option.some.injEq, Prod.mk.injEq] at h; obtain ⟨rfl, rfl, rfl⟩ := h; exact ⟨_, rfl, rfl, Tryd.sizeOf3, Tryd.isAgg3⟩
  | 2, h => by simp only [List.getElem?_cons_zero, List.getElem?_cons_succ, Option.some.injEq, Prod.mk.injEq] at h; obtain ⟨rfl, rfl, rfl⟩ := h; exact ⟨_, rfl, rfl, Tryd.sizeOf3, Tryd.isAgg3⟩
  | 3, h => by simp only [List.getElem?_cons_zero, List.getElem?_cons_succ, Option.some.injEq, Prod.mk.injEq] at h; obtain ⟨rfl, rfl, rfl⟩ := h; exact ⟨_, rfl, rfl, Tryd.sizeOf56, Tryd.isAgg56⟩
  | 4, h => by simp only [List.getElem?_cons_zero, List.getElem?_cons_succ, Option.some.injEq, Prod.mk.injEq] at h; obtain ⟨rfl, rfl, rfl⟩ := h; exact ⟨_, rfl, rfl, Tryd.sizeOf28, Tryd.isAgg28⟩
  | (i + 5), h => by simp at h⟩
instance ty59 : Ty Tryd.prog 59 false 1 [.nilFunc] 8 := ⟨⟨Tryd.t59, _, by kernel_rfl, rfl, rfl, rfl, rfl⟩, Tryd.isAgg59, Tryd.sizeOf59, ⟨_, Tryd.zeroValue59, rfl⟩, ⟨_, Tryd.typeInfo59, rfl⟩⟩
instance hu59 : HasUnd Tryd.prog 59 := ⟨_, Tryd.runUnderlying59⟩
instance ty60 : Ty Tryd.prog 60 false 1 [.nilFunc] 8 := ⟨⟨Tryd.t60, _, by kernel_rfl, rfl, rfl, rfl, rfl⟩, Tryd.isAgg60, Tryd.sizeOf60, ⟨_, Tryd.zeroValue60, rfl⟩, ⟨_, Tryd.typeInfo60, rfl⟩⟩
instance hu60 : HasUnd Tryd.prog 60 := ⟨_, Tryd.runUnderlying60⟩
instance ty61 : Ty Tryd.prog 61 false 1 [.nilFunc] 8 := ⟨⟨Tryd.t61, _, by kernel_rfl, rfl, rfl, rfl, rfl⟩, Tryd.isAgg61, Tryd.sizeOf61, ⟨_, Tryd.zeroValue61, rfl⟩, ⟨_, Tryd.typeInfo61, rfl⟩⟩
instance hu61 : HasUnd Tryd.prog 61 := ⟨_, Tryd.runUnderlying61⟩
instance ty62 : Ty Tryd.prog 62 false 1 [.nilFunc] 8 := ⟨⟨Tryd.t62, _, by kernel_rfl, rfl, rfl, rfl, rfl⟩, Tryd.isAgg62, Tryd.sizeOf62, ⟨_, Tryd.zeroValue62, rfl⟩, ⟨_, Tryd.typeInfo62, rfl⟩⟩
instance hu62 : HasUnd Tryd.prog 62 := ⟨_, Tryd.runUnderlying62⟩
instance ty63 : Ty Tryd.prog 63 false 1 [.nilFunc] 8 := ⟨⟨Tryd.t63, _, by kernel_rfl, rfl, rfl, rfl, rfl⟩, Tryd.isAgg63, Tryd.sizeOf63, ⟨_, Tryd.zeroValue63, rfl⟩, ⟨_, Tryd.typeInfo63, rfl⟩⟩
instance hu63 : HasUnd Tryd.prog 63 := ⟨_, Tryd.runUnderlying63⟩
instance ty64 : Ty Tryd.prog 64 false 1 [.nilFunc] 8 := ⟨⟨Tryd.t64, _, by kernel_rfl, rfl, rfl, rfl, rfl⟩, Tryd.isAgg64, Tryd.sizeOf64, ⟨_, Tryd.zeroValue64, rfl⟩, ⟨_, Tryd.typeInfo64, rfl⟩⟩
instance hu64 : HasUnd Tryd.prog 64 := ⟨_, Tryd.runUnderlying64⟩
instance ty65 : Ty Tryd.prog 65 true 3 [.int .u64 0, .int .u64 0, .slice none 0 0] 40 := ⟨⟨Tryd.t65, _, by kernel_rfl, rfl, rfl, rfl, rfl⟩, Tryd.isAgg65, Tryd.sizeOf65, ⟨_, Tryd.zeroValue65, rfl⟩, ⟨_, Tryd.typeInfo65, rfl⟩⟩
instance hu65 : HasUnd Tryd.prog 65 := ⟨_, Tryd.runUnderlying65⟩
instance ss65 : StTy Tryd.prog 65 [(0, 1, false), (1, 1, false), (2, 1, false)] := ⟨_, Tryd.runUnderlying65, rfl, fun i off sz ag h => match i, h with
  | 0, h => by simp only [List.getElem?_cons_zero, List.getElem?_cons_succ, Option.some.injEq, Prod.mk.injEq] at h; obtain ⟨rfl, rfl, rfl⟩ := h; exact ⟨_, rfl, rfl, Tryd.sizeOf30, Tryd.isAgg30⟩
  | 1, h => by simp only [List.getElem?_cons_zero, List.getElem?_cons_succ, Option.some.injEq, Prod.mk.injEq] at h; obtain ⟨rfl, rfl, rfl⟩ := h; exact ⟨_, rfl, rfl, Tryd.sizeOf30, Tryd.isAgg30⟩
  | 2, h => by simp only [List.getElem?_cons_zero, List.getElem?_cons_succ, Option.some.injEq, Prod.mk.injEq] at h; obtain ⟨rfl, rfl, rfl⟩ := h; exact ⟨_, rfl, rfl, Tryd.sizeOf32, Tryd.isAgg32⟩
  | (i + 3), h => by simp at h⟩
instance ty66 : Ty Tryd.prog 66 true 3 [.int .u64 0, .int .u64 0, .slice none 0 0] 40 := ⟨⟨Tryd.t66, _, by kernel_rfl, rfl, rfl, rfl, rfl⟩, Tryd.isAgg66, Tryd.sizeOf66, ⟨_, Tryd.zeroValue66, rfl⟩, ⟨_, Tryd.typeInfo66, rfl⟩⟩
instance hu66 : HasUnd Tryd.prog 66 := ⟨_, Tryd.runUnderlying66⟩
instance ss66 : StTy Tryd.prog 66 [(0, 1, false), (1, 1, false), (2, 1, false)] := ⟨_, Tryd.runUnderlying66, rfl, fun i off sz ag h => match i, h with
  | 0, h => by simp only [List.getElem?_cons_zero, List.getElem?_cons_succ, Option.some.injEq, Prod.mk.injEq] at h; obtain ⟨rfl, rfl, rfl⟩ := h; exact ⟨_, rfl, rfl, Tryd.sizeOf30, Tryd.isAgg30⟩
  | 1, h => by simp only [List.getElem?_cons_zero, List.getElem?_cons_succ, Option.some.injEq, Prod.mk.injEq] at h; obtain ⟨rfl, rfl, rfl⟩ := h; exact ⟨_, rfl, rfl, Tryd.sizeOf30, Tryd.isAgg30⟩
  | 2, h => by simp only [List.getElem?_cons_zero, List.getElem?_cons_succ, Option.some.injEq, Prod.mk.injEq] at h; obtain ⟨rfl, rfl, rfl⟩ := h; exact ⟨_, rfl, rfl, Tryd.sizeOf32, Tryd.isAgg32⟩
  | (i + 3), h => by simp at h⟩
instance ty67 : Ty Tryd.prog 67 false 1 [.nilFunc] 8 := ⟨⟨Tryd.t67, _, by kernel_rfl, rfl, rfl, rfl, rfl⟩, Tryd.isAgg67, Tryd.sizeOf67, ⟨_, Tryd.zeroValue67, rfl⟩, ⟨_, Tryd.typeInfo67, rfl⟩⟩
instance hu67 : HasUnd Tryd.prog 67 := ⟨_, Tryd.runUnderlying67⟩
instance ty68 : Ty Tryd.prog 68 false 1 [.nilFunc] 8 := ⟨⟨Tryd.t68, _, by kernel_rfl, rfl, rfl, rfl, rfl⟩, Tryd.isAgg68, Tryd.sizeOf68, ⟨_, Tryd.zeroValue68, rfl⟩, ⟨_, Tryd.typeInfo68, rfl⟩⟩
instance hu68 : HasUnd Tryd.prog 68 := ⟨_, Tryd.runUnderlying68⟩
instance ty69 : Ty Tryd.prog 69 false 1 [.nilFunc] 8 := ⟨⟨Tryd.t69, _, by kernel_rfl, rfl, rfl, rfl, rfl⟩, Tryd.isAgg69, Tryd.sizeOf69, ⟨_, Tryd.zeroValue69, rfl⟩, ⟨_, Tryd.typeInfo69, rfl⟩⟩
instance hu69 : HasUnd Tryd.prog 69 := ⟨_, Tryd.runUnderlying69⟩
instance ty70 : Ty Tryd.prog 70 false 1 [.slice none 0 0] 24 := ⟨⟨Tryd.t70, _, by kernel_rfl, rfl, rfl, rfl, rfl⟩, Tryd.isAgg70, Tryd.sizeOf70, ⟨_, Tryd.zeroValue70, rfl⟩, ⟨_, Tryd.typeInfo70, rfl⟩⟩
instance hu70 : HasUnd Tryd.prog 70 := ⟨_, Tryd.runUnderlying70⟩
instance sl70 : SlTy Tryd.prog 70 102 := ⟨Tryd.runUnderlying70, Tryd.underlying70⟩
instance ty71 : Ty Tryd.prog 71 false 1 [.nilFunc] 8 := ⟨⟨Tryd.t71, _, by kernel_rfl, rfl, rfl, rfl, rfl⟩, Tryd.isAgg71, Tryd.sizeOf71, ⟨_, Tryd.zeroValue71, rfl⟩, ⟨_, Tryd.typeInfo71, rfl⟩⟩
instance hu71 : HasUnd Tryd.prog 71 := ⟨_, Tryd.runUnderlying71⟩
instance ty72 : Ty Tryd.prog 72 true 2 [.int .u64 0, .slice none 0 0] 32 := ⟨⟨Tryd.t72, _, by kernel_rfl, rfl, rfl, rfl, rfl⟩, Tryd.isAgg72, Tryd.sizeOf72, ⟨_, Tryd.zeroValue72, rfl⟩, ⟨_, Tryd.typeInfo72, rfl⟩⟩
instance hu72 : HasUnd Tryd.prog 72 := ⟨_, Tryd.runUnderlying72⟩
instance ss72 : StTy Tryd.prog 72 [(0, 1, false), (1, 1, false)] := ⟨_, Tryd.runUnderlying72, rfl, fun i off sz ag h => match i, h with
  | 0, h => by simp only [List.getElem?_cons_zero, List.getElem?_cons_succ, Option.some.injEq, Prod.mk.injEq] at h; obtain ⟨rfl, rfl, rfl⟩ := h; exact ⟨_, rfl, rfl, Tryd.sizeOf30, Tryd.isAgg30⟩
  | 1, h => by simp only [List.getElem?_cons_zero, List.getElem?_cons_succ, Option.some.injEq, Prod.mk.injEq] at h; obtain ⟨rfl, rfl, rfl⟩ := h; exact ⟨_, rfl, rfl, Tryd.sizeOf33, Tryd.isAgg33⟩
  | (i + 2), h => by simp at h⟩
instance ty73 : Ty Tryd.prog 73 true 2 [.int .u64 0, .slice none 0 0] 32 := ⟨⟨Tryd.t73, _, by kernel_rfl, rfl, rfl, rfl, rfl⟩, Tryd.isAgg73, Tryd.sizeOf73, ⟨_, Tryd.zeroValue73, rfl⟩, ⟨_, Tryd.typeInfo73, rfl⟩⟩
instance hu73 : HasUnd Tryd.prog 73 := ⟨_, Tryd.runUnderlying73⟩
instance ss73 : StTy Tryd.prog 73 [(0, 1, false), (1, 1, false)] := ⟨_, Tryd.runUnderlying73, rfl, fun i off sz ag h => match i, h with
  | 0, h => by simp only [List.getElem?_cons_zero, List.getElem?_cons_succ, Option.some.injEq, Prod.mk.injEq] at h; obtain ⟨rfl, rfl, rfl⟩ := h; exact ⟨_, rfl, rfl, Tryd.sizeOf30, Tryd.isAgg30⟩
  | 1, h => by simp only [List.getElem?_cons_zero, List.getElem?_cons_succ, Option.some.injEq, Prod.mk.injEq] at h; obtain ⟨rfl, rfl, rfl⟩ := h; exact ⟨_, rfl, rfl, Tryd.sizeOf33, Tryd.isAgg33⟩
  | (i + 2), h => by simp at h⟩
instance ty74 : Ty Tryd.prog 74 false 1 [.map none] 8 := ⟨⟨Tryd.t74, _, by kernel_rfl, rfl, rfl, rfl, rfl⟩, Tryd.isAgg74, Tryd.sizeOf74, ⟨_, Tryd.zeroValue74, rfl⟩, ⟨_, Tryd.typeInfo74, rfl⟩⟩
instance hu74 : HasUnd Tryd.prog 74 := ⟨_, Tryd.runUnderlying74⟩
instance mt74 : MapTy Tryd.prog 74 30 92 := ⟨Tryd.runUnderlying74, Tryd.underlying74⟩
instance ty75 : Ty Tryd.prog 75 false 1 [.map none] 8 := ⟨⟨Tryd.t75, _, by kernel_rfl, rfl, rfl, rfl, rfl⟩, Tryd.isAgg75, Tryd.sizeOf75, ⟨_, Tryd.zeroValue75, rfl⟩, ⟨_, Tryd.typeInfo75, rfl⟩⟩
instance hu75 : HasUnd Tryd.prog 75 := ⟨_, Tryd.runUnderlying75⟩
instance mt75 : MapTy Tryd.prog 75 30 66 := ⟨Tryd.runUnderlying75, Tryd.underlying75⟩
instance ty76 : Ty Tryd.prog 76 true 4 [.int .i64 0, .map none, .map none, .int .u64 0] 32 := ⟨⟨Tryd.t76, _, by kernel_rfl, rfl, rfl, rfl, rfl⟩, Tryd.isAgg76, Tryd.sizeOf76, ⟨_, Tryd.zeroValue76, rfl⟩, ⟨_, Tryd.typeInfo76, rfl⟩⟩
instance hu76 : HasUnd Tryd.prog 76 := ⟨_, Tryd.runUnderlying76⟩
instance ss76 : StTy Tryd.prog 76 [(0, 1, false), (1, 1, false), (2, 1, false), (3, 1, false)] := ⟨_, Tryd.runUnderlying76, rfl, fun i off sz ag h => match i, h with
  | 0, h => by simp only [List.getElem?_cons_zero, List.getElem?_cons_succ, Option.some.injEq, Prod.mk.injEq] at h; obtain ⟨rfl, rfl, rfl⟩ := h; exact ⟨_, rfl, rfl, Tryd.sizeOf3, Tryd.isAgg3⟩
  | 1, h => by simp only [List.getElem?_cons_zero, List.getElem?_cons_succ, Option.some.injEq, Prod.mk.injEq] at h; obtain ⟨rfl, rfl, rfl⟩ := h; exact ⟨_, rfl, rfl, Tryd.sizeOf74, Tryd.isAgg74⟩
  | 2, h => by simp only [List.getElem?_cons_zero, List.getElem?_cons_succ, Option.some.injEq, Prod.mk.injEq] at h; obtain ⟨rfl, rfl, rfl⟩ := h; exact ⟨_, rfl, rfl, Tryd.sizeOf75, Tryd.isAgg75⟩
  | 3, h => by simp only [List.getElem?_cons_zero, List.getElem?_cons_succ, Option.some.injEq, Prod.mk.injEq] at h; obtain ⟨rfl, rfl, rfl⟩ := h; exact ⟨_, rfl, rfl, Tryd.sizeOf30, Tryd.isAgg30⟩
  | (i + 4), h => by simp at h⟩
instance ty77 : Ty Tryd.prog 77 true 4 [.int .i64 0, .map none, .map none, .int .u64 0] 32 := ⟨⟨Tryd.t77, _, by kernel_rfl, rfl, rfl, rfl, rfl⟩, Tryd.isAgg77, Tryd.sizeOf77, ⟨_, Tryd.zeroValue77, rfl⟩, ⟨_, Tryd.typeInfo77, rfl⟩⟩
instance hu77 : HasUnd Tryd.prog 77 := ⟨_, Tryd.runUnderlying77⟩
instance ss77 : StTy Tryd.prog 77 [(0, 1, false), (1, 1, false), (2, 1, false), (3, 1, false)] := ⟨_, Tryd.runUnderlying77, rfl, fun i off sz ag h => match i, h with
  | 0, h => by simp only [List.getElem?_cons_zero, List.getElem?_cons_succ, Option.some.injEq, Prod.mk.injEq] at h; obtain ⟨rfl, rfl, rfl⟩ := h; exact ⟨_, rfl, rfl, Tryd.sizeOf3, Tryd.isAgg3⟩
  | 1, h => by simp only [List.getElem?_cons_zero, List.getElem?_cons_succ, Option.some.injEq, Prod.mk.injEq] at h; obtain ⟨rfl, rfl, rfl⟩ := h; exact ⟨_, rfl, rfl, Tryd.sizeOf74, Tryd.isAgg74⟩
  | 2, h => by simp only [List.getElem?_cons_zero, List.getElem?_cons_succ, Option.some.injEq, Prod.mk.injEq] at h; obtain ⟨rfl, rfl, rfl⟩ := h; exact ⟨_, rfl, rfl, Tryd.sizeOf75, Tryd.isAgg75⟩
  | 3, h => by simp only [List.getElem?_cons_zero, List.getElem?_cons_succ, Option.some.injEq, Prod.mk.injEq] at h; obtain ⟨rfl, rfl, rfl⟩ := h; exact ⟨_, rfl, rfl, Tryd.sizeOf30, Tryd.isAgg30⟩
  | (i + 4), h => by simp at h⟩
instance ty78 : Ty Tryd.prog 78 true 3 [.int .u64 0, .int .u64 0, .slice none 0 0] 40 := ⟨⟨Tryd.t78, _, by kernel_rfl, rfl, rfl, rfl, rfl⟩, Tryd.isAgg78, Tryd.sizeOf78, ⟨_, Tryd.zeroValue78, rfl⟩, ⟨_, Tryd.typeInfo78, rfl⟩⟩
instance hu78 : HasUnd Tryd.prog 78 := ⟨_, Tryd.runUnderlying78⟩
instance ss78 : StTy Tryd.prog 78 [(0, 1, false), (1, 1, false), (2, 1, false)] := ⟨_, Tryd.runUnderlying78, rfl, fun i off sz ag h => match i, h with
  | 0, h => by simp only [List.getElem?_cons_zero, List.getElem?_cons_succ, Option.some.injEq, Prod.mk.injEq] at h; obtain ⟨rfl, rfl, rfl⟩ := h; exact ⟨_, rfl, rfl, Tryd.sizeOf30, Tryd.isAgg30⟩
  | 1, h => by simp only [List.getElem?_cons_zero, List.getElem?_cons_succ, Option.some.injEq, Prod.mk.injEq] at h; obtain ⟨rfl, rfl, rfl⟩ := h; exact ⟨_, rfl, rfl, Tryd.sizeOf30, Tryd.isAgg30⟩
  | 2, h => by simp only [List.getElem?_cons_zero, List.getElem?_cons_succ, Option.some.injEq, Prod.mk.injEq] at h; obtain ⟨rfl, rfl, rfl⟩ := h; exact ⟨_, rfl, rfl, Tryd.sizeOf33, Tryd.isAgg33⟩
  | (i + 3), h => by simp at h⟩
instance ty79 : Ty Tryd.prog 79 true 3 [.int .u64 0, .int .u64 0, .slice none 0 0] 40 := ⟨⟨Tryd.t79, _, by kernel_rfl, rfl, rfl, rfl, rfl⟩, Tryd.isAgg79, Tryd.sizeOf79, ⟨_, Tryd.zeroValue79, rfl⟩, ⟨_, Tryd.typeInfo79, rfl⟩⟩
instance hu79 : HasUnd Tryd.prog 79 := ⟨_, Tryd.runUnderlying79⟩
instance ss79 : StTy Tryd.prog 79 [(0, 1, false), (1, 1, false), (2, 1, false)] := ⟨_, Tryd.runUnderlying79, rfl, fun i off sz ag h => match i, h with
  | 0, h => by simp only [List.getElem?_cons_zero, List.getElem?_cons_succ, Option.some.injEq, Prod.mk.injEq] at h; obtain ⟨rfl, rfl, rfl⟩ := h; exact ⟨_, rfl, rfl, Tryd.sizeOf30, Tryd.isAgg30⟩
  | 1, h => by simp only [List.getElem?_cons_zero, List.getElem?_cons_succ, Option.some.injEq, Prod.mk.injEq] at h; obtain ⟨rfl, rfl, rfl⟩ := h; exact ⟨_, rfl, rfl, Tryd.sizeOf30, Tryd.isAgg30⟩
  | 2, h => by simp only [List.getElem?_cons_zero, List.getElem?_cons_succ, Option.some.injEq, Prod.mk.injEq] at h; obtain ⟨rfl, rfl, rfl⟩ := h; exact ⟨_, rfl, rfl, Tryd.sizeOf33, Tryd.isAgg33⟩
  | (i + 3), h => by simp at h⟩
instance ty80 : Ty Tryd.prog 80 true 2 [.string ⟨#[]⟩, .int .i64 0] 24 := ⟨⟨Tryd.t80, _, by kernel_rfl, rfl, rfl, rfl, rfl⟩, Tryd.isAgg80, Tryd.sizeOf80, ⟨_, Tryd.zeroValue80, rfl⟩, ⟨_, Tryd.typeInfo80, rfl⟩⟩
instance hu80 : HasUnd Tryd.prog 80 := ⟨_, Tryd.runUnderlying80⟩
instance ss80 : StTy Tryd.prog 80 [(0, 1, false), (1, 1, false)] := ⟨_, Tryd.runUnderlying80, rfl, fun i off sz ag h => match i, h with
  | 0, h => by simp only [List.getElem?_cons_zero, List.getElem?_cons_succ, Option.some.injEq, Prod.mk.injEq] at h; obtain ⟨rfl, rfl, rfl⟩ := h; exact ⟨_, rfl, rfl, Tryd.sizeOf9, Tryd.isAgg9⟩
  | 1, h => by simp only [List.getElem?_cons_zero, List.getElem?_cons_succ, Option.some.injEq, Prod.mk.injEq] at h; obtain ⟨rfl, rfl, rfl⟩ := h; exact ⟨_, rfl, rfl, Tryd.sizeOf3, Tryd.isAgg3⟩
  | (i + 2), h => by simp at h⟩
instance ty81 : Ty Tryd.prog 81 true 2 [.string ⟨#[]⟩, .int .i64 0] 24 := ⟨⟨Tryd.t81, _, by kernel_rfl, rfl, rfl, rfl, rfl⟩, Tryd.isAgg81, Tryd.sizeOf81, ⟨_, Tryd.zeroValue81, rfl⟩, ⟨_, Tryd.typeInfo81, rfl⟩⟩
instance hu81 : HasUnd Tryd.prog 81 := ⟨_, Tryd.runUnderlying81⟩
instance ss81 : StTy Tryd.prog 81 [(0, 1, false), (1, 1, false)] := ⟨_, Tryd.runUnderlying81, rfl, fun i off sz ag h => match i, h with
  | 0, h => by simp only [List.getElem?_cons_zero, List.getElem?_cons_succ, Option.some.injEq, Prod.mk.injEq] at h; obtain ⟨rfl, rfl, rfl⟩ := h; exact ⟨_, rfl, rfl, Tryd.sizeOf9, Tryd.isAgg9⟩
  | 1, h => by simp only [List.getElem?_cons_zero, List.getElem?_cons_succ, Option.some.injEq, Prod.mk.injEq] at h; obtain ⟨rfl, rfl, rfl⟩ := h; exact ⟨_, rfl, rfl, Tryd.sizeOf3, Tryd.isAgg3⟩
  | (i + 2), h => by simp at h⟩
instance ty82 : Ty Tryd.prog 82 false 1 [.nilFunc] 8 := ⟨⟨Tryd.t82, _, by kernel_rfl, rfl, rfl, rfl, rfl⟩, Tryd.isAgg82, Tryd.sizeOf82, ⟨_, Tryd.zeroValue82, rfl⟩, ⟨_, Tryd.typeInfo82, rfl⟩⟩
instance hu82 : HasUnd Tryd.prog 82 := ⟨_, Tryd.runUnderlying82⟩
instance ty83 : Ty Tryd.prog 83 false 1 [.nilFunc] 8 := ⟨⟨Tryd.t83, _, by kernel_rfl, rfl, rfl, rfl, rfl⟩, Tryd.isAgg83, Tryd.sizeOf83, ⟨_, Tryd.zeroValue83, rfl⟩, ⟨_, Tryd.typeInfo83, rfl⟩⟩
instance hu83 : HasUnd Tryd.prog 83 := ⟨_, Tryd.runUnderlying83⟩
instance hu84 : HasUnd Tryd.prog 84 := ⟨_, Tryd.runUnderlying84⟩
instance ty85 : Ty Tryd.prog 85 false 1 [.nilFunc] 8 := ⟨⟨Tryd.t85, _, by kernel_rfl, rfl, rfl, rfl, rfl⟩, Tryd.isAgg85, Tryd.sizeOf85, ⟨_, Tryd.zeroValue85, rfl⟩, ⟨_, Tryd.typeInfo85, rfl⟩⟩
instance hu85 : HasUnd Tryd.prog 85 := ⟨_, Tryd.runUnderlying85⟩
instance ty86 : Ty Tryd.prog 86 false 1 [.nilFunc] 8 := ⟨⟨Tryd.t86, _, by kernel_rfl, rfl, rfl, rfl, rfl⟩, Tryd.isAgg86, Tryd.sizeOf86, ⟨_, Tryd.zeroValue86, rfl⟩, ⟨_, Tryd.typeInfo86, rfl⟩⟩
instance hu86 : HasUnd Tryd.prog 86 := ⟨_, Tryd.runUnderlying86⟩
instance ty87 : Ty Tryd.prog 87 false 1 [.nilFunc] 8 := ⟨⟨Tryd.t87, _, by kernel_rfl, rfl, rfl, rfl, rfl⟩, Tryd.isAgg87, Tryd.sizeOf87, ⟨_, Tryd.zeroValue87, rfl⟩, ⟨_, Tryd.typeInfo87, rfl⟩⟩
instance hu87 : HasUnd Tryd.prog 87 := ⟨_, Tryd.runUnderlying87⟩
instance ty88 : Ty Tryd.prog 88 false 1 [.nilFunc] 8 := ⟨⟨Tryd.t88, _, by kernel_rfl, rfl, rfl, rfl, rfl⟩, Tryd.isAgg88, Tryd.sizeOf88, ⟨_, Tryd.zeroValue88, rfl⟩, ⟨_, Tryd.typeInfo88, rfl⟩⟩
instance hu88 : HasUnd Tryd.prog 88 := ⟨_, Tryd.runUnderlying88⟩
instance ty89 : Ty Tryd.prog 89 false 1 [.nilFunc] 8 := ⟨⟨Tryd.t89, _, by kernel_rfl, rfl, rfl, rfl, rfl⟩, Tryd.isAgg89, Tryd.sizeOf89, ⟨_, Tryd.zeroValue89, rfl⟩, ⟨_, Tryd.typeInfo89, rfl⟩⟩
instance hu89 : HasUnd Tryd.prog 89 := ⟨_, Tryd.runUnderlying89⟩
instance ty90 : Ty Tryd.prog 90 false 1 [.nilFunc] 8 := ⟨⟨Tryd.t90, _, by kernel_rfl, rfl, rfl, rfl, rfl⟩, Tryd.isAgg90, Tryd.sizeOf90, ⟨_, Tryd.zeroValue90, rfl⟩, ⟨_, Tryd.typeInfo90, rfl⟩⟩
instance hu90 : HasUnd Tryd.prog 90 := ⟨_, Tryd.runUnderlying90⟩
instance ty91 : Ty Tryd.prog 91 false 1 [.nilFunc] 8 := ⟨⟨Tryd.t91, _, by kernel_rfl, rfl, rfl, rfl, rfl⟩, Tryd.isAgg91, Tryd.sizeOf91, ⟨_, Tryd.zeroValue91, rfl⟩, ⟨_, Tryd.typeInfo91, rfl⟩⟩
instance hu91 : HasUnd Tryd.prog 91 := ⟨_, Tryd.runUnderlying91⟩
instance ty92 : Ty Tryd.prog 92 false 1 [.pointer none] 8 := ⟨⟨Tryd.t92, _, by kernel_rfl, rfl, rfl, rfl, rfl⟩, Tryd.isAgg92, Tryd.sizeOf92, ⟨_, Tryd.zeroValue92, rfl⟩, ⟨_, Tryd.typeInfo92, rfl⟩⟩
instance hu92 : HasUnd Tryd.prog 92 := ⟨_, Tryd.runUnderlying92⟩
instance pt92 : PtrTy Tryd.prog 92 122 := ⟨Tryd.runUnderlying92, Tryd.underlying92⟩
instance hu93 : HasUnd Tryd.prog 93 := ⟨_, Tryd.runUnderlying93⟩
instance ty94 : Ty Tryd.prog 94 false 1 [.nilFunc] 8 := ⟨⟨Tryd.t94, _, by kernel_rfl, rfl, rfl, rfl, rfl⟩, Tryd.isAgg94, Tryd.sizeOf94, ⟨_, Tryd.zeroValue94, rfl⟩, ⟨_, Tryd.typeInfo94, rfl⟩⟩
instance hu94 : HasUnd Tryd.prog 94 := ⟨_, Tryd.runUnderlying94⟩
instance ty95 : Ty Tryd.prog 95 false 1 [.nilFunc] 8 := ⟨⟨Tryd.t95, _, by kernel_rfl, rfl, rfl, rfl, rfl⟩, Tryd.isAgg95, Tryd.sizeOf95, ⟨_, Tryd.zeroValue95, rfl⟩, ⟨_, Tryd.typeInfo95, rfl⟩⟩
instance hu95 : HasUnd Tryd.prog 95 := ⟨_, Tryd.runUnderlying95⟩
instance ty96 : Ty Tryd.prog 96 true 2 [.int .u64 0, .slice none 0 0] 32 := ⟨⟨Tryd.t96, _, by kernel_rfl, rfl, rfl, rfl, rfl⟩, Tryd.isAgg96, Tryd.sizeOf96, ⟨_, Tryd.zeroValue96, rfl⟩, ⟨_, Tryd.typeInfo96, rfl⟩⟩
instance hu96 : HasUnd Tryd.prog 96 := ⟨_, Tryd.runUnderlying96⟩
instance ss96 : StTy Tryd.prog 96 [(0, 1, false), (1, 1, false)] := ⟨_, Tryd.runUnderlying96, rfl, fun i off sz ag h => match i, h with
  | 0, h => by simp only [List.getElem?_cons_zero, List.getElem?_cons_succ, Option.some.injEq, Prod.mk.injEq] at h; obtain ⟨rfl, rfl, rfl⟩ := h; exact ⟨_, rfl, rfl, Tryd.sizeOf30, Tryd.isAgg30⟩
  | 1, h => by simp only [List.getElem?_cons_zero, List.getElem?_cons_succ, Option.some.injEq, Prod.mk.injEq] at h; obtain ⟨rfl, rfl, rfl⟩ := h; exact ⟨_, rfl, rfl, Tryd.sizeOf33, Tryd.isAgg33⟩
  | (i + 2), h => by simp at h⟩
instance ty97 : Ty Tryd.prog 97 true 2 [.int .u64 0, .slice none 0 0] 32 := ⟨⟨Tryd.t97, _, by kernel_rfl, rfl, rfl, rfl, rfl⟩, Tryd.isAgg97, Tryd.sizeOf97, ⟨_, Tryd.zeroValue97, rfl⟩, ⟨_, Tryd.typeInfo97, rfl⟩⟩
instance hu97 : HasUnd Tryd.prog 97 := ⟨_, Tryd.runUnderlying97⟩
instance ss97 : StTy Tryd.prog 97 [(0, 1, false), (1, 1, false)] := ⟨_, Tryd.runUnderlying97, rfl, fun i off sz ag h => match i, h with
  | 0, h => by simp only [List.getElem?_cons_zero, List.getElem?_cons_succ, Option.some.injEq, Prod.mk.injEq] at h; obtain ⟨rfl, rfl, rfl⟩ := h; exact ⟨_, rfl, rfl, Tryd.sizeOf30, Tryd.isAgg30⟩
  | 1, h => by simp only [List.getElem?_cons_zero, List.getElem?_cons_succ, Option.some.injEq, Prod.mk.injEq] at h; obtain ⟨rfl, rfl, rfl⟩ := h; exact ⟨_, rfl, rfl, Tryd.sizeOf33, Tryd.isAgg33⟩
  | (i + 2), h => by simp at h⟩
instance ty98 : Ty Tryd.prog 98 false 1 [.slice none 0 0] 24 := ⟨⟨Tryd.t98, _, by kernel_rfl, rfl, rfl, rfl, rfl⟩, Tryd.isAgg98, Tryd.sizeOf98, ⟨_, Tryd.zeroValue98, rfl⟩, ⟨_, Tryd.typeInfo98, rfl⟩⟩
instance hu98 : HasUnd Tryd.prog 98 := ⟨_, Tryd.runUnderlying98⟩
instance sl98 : SlTy Tryd.prog 98 30 := ⟨Tryd.runUnderlying98, Tryd.underlying98⟩
instance ty99 : Ty Tryd.prog 99 false 1 [.nilFunc] 8 := ⟨⟨Tryd.t99, _, by kernel_rfl, rfl, rfl, rfl, rfl⟩, Tryd.isAgg99, Tryd.sizeOf99, ⟨_, Tryd.zeroValue99, rfl⟩, ⟨_, Tryd.typeInfo99, rfl⟩⟩
instance hu99 : HasUnd Tryd.prog 99 := ⟨_, Tryd.runUnderlying99⟩
instance ty100 : Ty Tryd.prog 100 false 1 [.nilFunc] 8 := ⟨⟨Tryd.t100, _, by kernel_rfl, rfl, rfl, rfl, rfl⟩, Tryd.isAgg100, Tryd.sizeOf100, ⟨_, Tryd.zeroValue100, rfl⟩, ⟨_, Tryd.typeInfo100, rfl⟩⟩
instance hu100 : HasUnd Tryd.prog 100 := ⟨_, Tryd.runUnderlying100⟩
instance ty101 : Ty Tryd.prog 101 true 2 [.int .u64 0, .int .u64 0] 16 := ⟨⟨Tryd.t101, _, by kernel_rfl, rfl, rfl, rfl, rfl⟩, Tryd.isAgg101, Tryd.sizeOf101, ⟨_, Tryd.zeroValue101, rfl⟩, ⟨_, Tryd.typeInfo101, rfl⟩⟩
instance hu101 : HasUnd Tryd.prog 101 := ⟨_, Tryd.runUnderlying101⟩
instance ss101 : StTy Tryd.prog 101 [(0, 1, false), (1, 1, false)] := ⟨_, Tryd.runUnderlying101, rfl, fun i off sz ag h => match i, h with
  | 0, h => by simp only [List.getElem?_cons_zero, List.getElem?_cons_succ, Option.some.injEq, Prod.mk.injEq] at h; obtain ⟨rfl, rfl, rfl⟩ := h; exact ⟨_, rfl, rfl, Tryd.sizeOf30, Tryd.isAgg30⟩
  | 1, h => by simp only [List.getElem?_cons_zero, List.getElem?_cons_succ, Option.some.injEq, Prod.mk.injEq] at h; obtain ⟨rfl, rfl, rfl⟩ := h; exact ⟨_, rfl, rfl, Tryd.sizeOf30, Tryd.isAgg30⟩
  | (i + 2), h => by simp at h⟩
instance ty102 : Ty Tryd.prog 102 true 2 [.int .u64 0, .int .u64 0] 16 := ⟨⟨Tryd.t102, _, by kernel_rfl, rfl, rfl, rfl, rfl⟩, Tryd.isAgg102, Tryd.sizeOf102, ⟨_, Tryd.zeroValue102, rfl⟩, ⟨_, Tryd.typeInfo102, rfl⟩⟩
instance hu102 : HasUnd Tryd.prog 102 := ⟨_, Tryd.runUnderlying102⟩
instance ss102 : StTy Tryd.prog 102 [(0, 1, false), (1, 1, false)] := ⟨_, Tryd.runUnderlying102, rfl, fun i off sz ag h => match i, h with
  | 0, h => by simp only [List.getElem?_cons_zero, List.getElem?_cons_succ, Option.some.injEq, Prod.mk.injEq] at h; obtain ⟨rfl, rfl, rfl⟩ := h; exact ⟨_, rfl, rfl, Tryd.sizeOf30, Tryd.isAgg30⟩
  | 1, h => by simp only [List.getElem?_cons_zero, List.getElem?_cons_succ, Option.some.injEq, Prod.mk.injEq] at h; obtain ⟨rfl, rfl, rfl⟩ := h; exact ⟨_, rfl, rfl, Tryd.sizeOf30, Tryd.isAgg30⟩
  | (i + 2), h => by simp at h⟩
instance ty103 : Ty Tryd.prog 103 false 1 [.nilFunc] 8 := ⟨⟨Tryd.t103, _, by kernel_rfl, rfl, rfl, rfl, rfl⟩, Tryd.isAgg103, Tryd.sizeOf103, ⟨_, Tryd.zeroValue103, rfl⟩, ⟨_, Tryd.typeInfo103, rfl⟩⟩
instance hu103 : HasUnd Tryd.prog 103 := ⟨_, Tryd.runUnderlying103⟩
instance ty104 : Ty Tryd.prog 104 true 46 [.string ⟨#[]⟩, .int .i64 0, .string ⟨#[]⟩, .int .i64 0, .string ⟨#[]⟩, .int .i64 0, .string ⟨#[]⟩, .int .i64 0, .string ⟨#[]⟩, .int .i64 0, .string ⟨#[]⟩, .int .i64 0, .string ⟨#[]⟩, .int .i64 0, .string ⟨#[]⟩, .int .i64 0, .string ⟨#[]⟩, .int .i64 0, .string ⟨#[]⟩, .int .i64 0, .string ⟨#[]⟩, .int .i64 0, .string ⟨#[]⟩, .int .i64 0, .string ⟨#[]⟩, .int .i64 0, .string ⟨#[]⟩, .int .i64 0, .string ⟨#[]⟩, .int .i64 0, .string ⟨#[]⟩, .int .i64 0, .string ⟨#[]⟩, .int .i64 0, .string ⟨#[]⟩, .int .i64 0, .string ⟨#[]⟩, .int .i64 0, .string ⟨#[]⟩, .int .i64 0, .string ⟨#[]⟩, .int .i64 0, .string ⟨#[]⟩, .int .i64 0, .string ⟨#[]⟩, .int .i64 0] 552 := ⟨⟨Tryd.t104, _, by kernel_rfl, rfl, rfl, rfl, rfl⟩, Tryd.isAgg104, Tryd.sizeOf104, ⟨_, Tryd.zeroValue104, rfl⟩, ⟨_, Tryd.typeInfo104, rfl⟩⟩
instance hu104 : HasUnd Tryd.prog 104 := ⟨_, Tryd.runUnderlying104⟩
instance at104 : ArrTy Tryd.prog 104 23 81 := ⟨Tryd.runUnderlying104, Tryd.underlying104⟩
instance ty105 : Ty Tryd.prog 105 true 15 [.bool false, .bool false, .bool false, .bool false, .bool false, .bool false, .bool false, .bool false, .bool false, .bool false, .bool false, .bool false, .bool false, .bool false, .bool false] 15 := ⟨⟨Tryd.t105, _, by kernel_rfl, rfl, rfl, rfl, rfl⟩, Tryd.isAgg105, Tryd.sizeOf105, ⟨_, Tryd.zeroValue105, rfl⟩, ⟨_, Tryd.typeInfo105, rfl⟩⟩
instance hu105 : HasUnd Tryd.prog 105 := ⟨_, Tryd.runUnderlying105⟩
instance at105 : ArrTy Tryd.prog 105 15 4 := ⟨Tryd.runUnderlying105, Tryd.underlying105⟩
instance ty106 : Ty Tryd.prog 106 false 1 [.nilFunc] 8 := ⟨⟨Tryd.t106, _, by kernel_rfl, rfl, rfl, rfl, rfl⟩, Tryd.isAgg106, Tryd.sizeOf106, ⟨_, Tryd.zeroValue106, rfl⟩, ⟨_, Tryd.typeInfo106, rfl⟩⟩
instance hu106 : HasUnd Tryd.prog 106 := ⟨_, Tryd.runUnderlying106⟩
instance ty107 : Ty Tryd.prog 107 false 1 [.nilFunc] 8 := ⟨⟨Tryd.t107, _, by kernel_rfl, rfl, rfl, rfl, rfl⟩, Tryd.isAgg107, Tryd.sizeOf107, ⟨_, Tryd.zeroValue107, rfl⟩, ⟨_, Tryd.typeInfo107, rfl⟩⟩
instance hu107 : HasUnd Tryd.prog 107 := ⟨_, Tryd.runUnderlying107⟩
instance ty108 : Ty Tryd.prog 108 false 1 [.nilFunc] 8 := ⟨⟨Tryd.t108, _, by kernel_rfl, rfl, rfl, rfl, rfl⟩, Tryd.isAgg108, Tryd.sizeOf108, ⟨_, Tryd.zeroValue108, rfl⟩, ⟨_, Tryd.typeInfo108, rfl⟩⟩
instance hu108 : HasUnd Tryd.prog 108 := ⟨_, Tryd.runUnderlying108⟩
instance ty109 : Ty Tryd.prog 109 false 1 [.nilFunc] 8 := ⟨⟨Tryd.t109, _, by kernel_rfl, rfl, rfl, rfl, rfl⟩, Tryd.isAgg109, Tryd.sizeOf109, ⟨_, Tryd.zeroValue109, rfl⟩, ⟨_, Tryd.typeInfo109, rfl⟩⟩
instance hu109 : HasUnd Tryd.prog 109 := ⟨_, Tryd.runUnderlying109⟩
instance ty110 : Ty Tryd.prog 110 false 1 [.nilFunc] 8 := ⟨⟨Tryd.t110, _, by kernel_rfl, rfl, rfl, rfl, rfl⟩, Tryd.isAgg110, Tryd.sizeOf110, ⟨_, Tryd.zeroValue110, rfl⟩, ⟨_, Tryd.typeInfo110, rfl⟩⟩
instance hu110 : HasUnd Tryd.prog 110 := ⟨_, Tryd.runUnderlying110⟩
instance ty111 : Ty Tryd.prog 111 false 1 [.slice none 0 0] 24 := ⟨⟨Tryd.t111, _, by kernel_rfl, rfl, rfl, rfl, rfl⟩, Tryd.isAgg111, Tryd.sizeOf111, ⟨_, Tryd.zeroValue111, rfl⟩, ⟨_, Tryd.typeInfo111, rfl⟩⟩
instance hu111 : HasUnd Tryd.prog 111 := ⟨_, Tryd.runUnderlying111⟩
instance sl111 : SlTy Tryd.prog 111 66 := ⟨Tryd.runUnderlying111, Tryd.underlying111⟩
instance ty112 : Ty Tryd.prog 112 false 1 [.nilFunc] 8 := ⟨⟨Tryd.t112, _, by kernel_rfl, rfl, rfl, rfl, rfl⟩, Tryd.isAgg112, Tryd.sizeOf112, ⟨_, Tryd.zeroValue112, rfl⟩, ⟨_, Tryd.typeInfo112, rfl⟩⟩
instance hu112 : HasUnd Tryd.prog 112 := ⟨_, Tryd.runUnderlying112⟩
instance ty113 : Ty Tryd.prog 113 false 1 [.nilFunc] 8 := ⟨⟨Tryd.t113, _, by kernel_rfl, rfl, rfl, rfl, rfl⟩, Tryd.isAgg113, Tryd.sizeOf113, ⟨_, Tryd.zeroValue113, rfl⟩, ⟨_, Tryd.typeInfo113, rfl⟩⟩
instance hu113 : HasUnd Tryd.prog 113 := ⟨_, Tryd.runUnderlying113⟩
instance ty114 : Ty Tryd.prog 114 false 1 [.slice none 0 0] 24 := ⟨⟨Tryd.t114, _, by kernel_rfl, rfl, rfl, rfl, rfl⟩, Tryd.isAgg114, Tryd.sizeOf114, ⟨_, Tryd.zeroValue114, rfl⟩, ⟨_, Tryd.typeInfo114, rfl⟩⟩
instance hu114 : HasUnd Tryd.prog 114 := ⟨_, Tryd.runUnderlying114⟩
instance sl114 : SlTy Tryd.prog 114 118 := ⟨Tryd.runUnderlying114, Tryd.underlying114⟩
instance ty115 : Ty Tryd.prog 115 false 1 [.nilFunc] 8 := ⟨⟨Tryd.t115, _, by kernel_rfl, rfl, rfl, rfl, rfl⟩, Tryd.isAgg115, Tryd.sizeOf115, ⟨_, Tryd.zeroValue115, rfl⟩, ⟨_, Tryd.typeInfo115, rfl⟩⟩
instance hu115 : HasUnd Tryd.prog 115 := ⟨_, Tryd.runUnderlying115⟩
instance ty116 : Ty Tryd.prog 116 false 1 [.slice none 0 0] 24 := ⟨⟨Tryd.t116, _, by kernel_rfl, rfl, rfl, rfl, rfl⟩, Tryd.isAgg116, Tryd.sizeOf116, ⟨_, Tryd.zeroValue116, rfl⟩, ⟨_, Tryd.typeInfo116, rfl⟩⟩
instance hu116 : HasUnd Tryd.prog 116 := ⟨_, Tryd.runUnderlying116⟩
instance sl116 : SlTy Tryd.prog 116 97 := ⟨Tryd.runUnderlying116, Tryd.underlying116⟩
instance ty117 : Ty Tryd.prog 117 true 2 [.int .u64 0, .slice none 0 0] 32 := ⟨⟨Tryd.t117, _, by kernel_rfl, rfl, rfl, rfl, rfl⟩, Tryd.isAgg117, Tryd.sizeOf117, ⟨_, Tryd.zeroValue117, rfl⟩, ⟨_, Tryd.typeInfo117, rfl⟩⟩
instance hu117 : HasUnd Tryd.prog 117 := ⟨_, Tryd.runUnderlying117⟩
instance ss117 : StTy Tryd.prog 117 [(0, 1, false), (1, 1, false)] := ⟨_, Tryd.runUnderlying117, rfl, fun i off sz ag h => match i, h with
  | 0, h => by simp only [List.getElem?_cons_zero, List.getElem?_cons_succ, Option.some.injEq, Prod.mk.injEq] at h; obtain ⟨rfl, rfl, rfl⟩ := h; exact ⟨_, rfl, rfl, Tryd.sizeOf30, Tryd.isAgg30⟩
  | 1, h => by simp only [List.getElem?_cons_zero, List.getElem?_cons_succ, Option.some.injEq, Prod.mk.injEq] at h; obtain ⟨rfl, rfl, rfl⟩ := h; exact ⟨_, rfl, rfl, Tryd.sizeOf116, Tryd.isAgg116⟩
  | (i + 2), h => by simp at h⟩
instance ty118 : Ty Tryd.prog 118 true 2 [.int .u64 0, .slice none 0 0] 32 := ⟨⟨Tryd.t118, _, by kernel_rfl, rfl, rfl, rfl, rfl⟩, Tryd.isAgg118, Tryd.sizeOf118, ⟨_, Tryd.zeroValue118, rfl⟩, ⟨_, Tryd.typeInfo118, rfl⟩⟩
instance hu118 : HasUnd Tryd.prog 118 := ⟨_, Tryd.runUnderlying118⟩
instance ss118 : StTy Tryd.prog 118 [(0, 1, false), (1, 1, false)] := ⟨_, Tryd.runUnderlying118, rfl, fun i off sz ag h => match i, h with
  | 0, h => by simp only [List.getElem?_cons_zero, List.getElem?_cons_succ, Option.some.injEq, Prod.mk.injEq] at h; obtain ⟨rfl, rfl, rfl⟩ := h; exact ⟨_, rfl, rfl, Tryd.sizeOf30, Tryd.isAgg30⟩
  | 1, h => by simp only [List.getElem?_cons_zero, List.getElem?_cons_succ, Option.some.injEq, Prod.mk.injEq] at h; obtain ⟨rfl, rfl, rfl⟩ := h; exact ⟨_, rfl, rfl, Tryd.sizeOf116, Tryd.isAgg116⟩
  | (i + 2), h => by simp at h⟩
instance ty119 : Ty Tryd.prog 119 false 1 [.nilFunc] 8 := ⟨⟨Tryd.t119, _, by kernel_rfl, rfl, rfl, rfl, rfl⟩, Tryd.isAgg119, Tryd.sizeOf119, ⟨_, Tryd.zeroValue119, rfl⟩, ⟨_, Tryd.typeInfo119, rfl⟩⟩
instance hu119 : HasUnd Tryd.prog 119 := ⟨_, Tryd.runUnderlying119⟩
instance ty120 : Ty Tryd.prog 120 false 1 [.nilFunc] 8 := ⟨⟨Tryd.t120, _, by kernel_rfl, rfl, rfl, rfl, rfl⟩, Tryd.isAgg120, Tryd.sizeOf120, ⟨_, Tryd.zeroValue120, rfl⟩, ⟨_, Tryd.typeInfo120, rfl⟩⟩
instance hu120 : HasUnd Tryd.prog 120 := ⟨_, Tryd.runUnderlying120⟩
instance ty121 : Ty Tryd.prog 121 true 1 [.slice none 0 0] 24 := ⟨⟨Tryd.t121, _, by kernel_rfl, rfl, rfl, rfl, rfl⟩, Tryd.isAgg121, Tryd.sizeOf121, ⟨_, Tryd.zeroValue121, rfl⟩, ⟨_, Tryd.typeInfo121, rfl⟩⟩
instance hu121 : HasUnd Tryd.prog 121 := ⟨_, Tryd.runUnderlying121⟩
instance ss121 : StTy Tryd.prog 121 [(0, 1, false)] := ⟨_, Tryd.runUnderlying121, rfl, fun i off sz ag h => match i, h with
  | 0, h => by simp only [List.getElem?_cons_zero, List.getElem?_cons_succ, Option.some.injEq, Prod.mk.injEq] at h; obtain ⟨rfl, rfl, rfl⟩ := h; exact ⟨_, rfl, rfl, Tryd.sizeOf116, Tryd.isAgg116⟩
  | (i + 1), h => by simp at h⟩
instance ty122 : Ty Tryd.prog 122 true 1 [.slice none 0 0] 24 := ⟨⟨Tryd.t122, _, by kernel_rfl, rfl, rfl, rfl, rfl⟩, Tryd.isAgg122, Tryd.sizeOf122, ⟨_, Tryd.zeroValue122, rfl⟩, ⟨_, Tryd.typeInfo122, rfl⟩⟩
instance hu122 : HasUnd Tryd.prog 122 := ⟨_, Tryd.runUnderlying122⟩
instance ss122 : StTy Tryd.prog 122 [(0, 1, false)] := ⟨_, Tryd.runUnderlying122, rfl, fun i off sz ag h => match i, h with
  | 0, h => by simp only [List.getElem?_cons_zero, List.getElem?_cons_succ, Option.some.injEq, Prod.mk.injEq] at h; obtain ⟨rfl, rfl, rfl⟩ := h; exact ⟨_, rfl, rfl, Tryd.sizeOf116, Tryd.isAgg116⟩
  | (i + 1), h => by simp at h⟩
instance ty123 : Ty Tryd.prog 123 false 1 [.nilFunc] 8 := ⟨⟨Tryd.t123, _, by kernel_rfl, rfl, rfl, rfl, rfl⟩, Tryd.isAgg123, Tryd.sizeOf123, ⟨_, Tryd.zeroValue123, rfl⟩, ⟨_, Tryd.typeInfo123, rfl⟩⟩
instance hu123 : HasUnd Tryd.prog 123 := ⟨_, Tryd.runUnderlying123⟩
instance ty124 : Ty Tryd.prog 124 false 1 [.nilFunc] 8 := ⟨⟨Tryd.t124, _, by kernel_rfl, rfl, rfl, rfl, rfl⟩, Tryd.isAgg124, Tryd.sizeOf124, ⟨_, Tryd.zeroValue124, rfl⟩, ⟨_, Tryd.typeInfo124, rfl⟩⟩
instance hu124 : HasUnd Tryd.prog 124 := ⟨_, Tryd.runUnderlying124⟩
instance ty125 : Ty Tryd.prog 125 false 1 [.nilFunc] 8 := ⟨⟨Tryd.t125, _, by kernel_rfl, rfl, rfl, rfl, rfl⟩, Tryd.isAgg125, Tryd.sizeOf125, ⟨_, Tryd.zeroValue125, rfl⟩, ⟨_, Tryd.typeInfo125, rfl⟩⟩
instance hu125 : HasUnd Tryd.prog 125 := ⟨_, Tryd.runUnderlying125⟩
instance ty126 : Ty Tryd.prog 126 false 1 [.nilFunc] 8 := ⟨⟨Tryd.t126, _, by kernel_rfl, rfl, rfl, rfl, rfl⟩, Tryd.isAgg126, Tryd.sizeOf126, ⟨_, Tryd.zeroValue126, rfl⟩, ⟨_, Tryd.typeInfo126, rfl⟩⟩
instance hu126 : HasUnd Tryd.prog 126 := ⟨_, Tryd.runUnderlying126⟩
instance ty127 : Ty Tryd.prog 127 false 1 [.nilFunc] 8 := ⟨⟨Tryd.t127, _, by kernel_rfl, rfl, rfl, rfl, rfl⟩, Tryd.isAgg127, Tryd.sizeOf127, ⟨_, Tryd.zeroValue127, rfl⟩, ⟨_, Tryd.typeInfo127, rfl⟩⟩
instance hu127 : HasUnd Tryd.prog 127 := ⟨_, Tryd.runUnderlying127⟩
instance ty128 : Ty Tryd.prog 128 false 1 [.nilFunc] 8 := ⟨⟨Tryd.t128, _, by kernel_rfl, rfl, rfl, rfl, rfl⟩, Tryd.isAgg128, Tryd.sizeOf128, ⟨_, Tryd.zeroValue128, rfl⟩, ⟨_, Tryd.typeInfo128, rfl⟩⟩
instance hu128 : HasUnd Tryd.prog 128 := ⟨_, Tryd.runUnderlying128⟩
instance ty129 : Ty Tryd.prog 129 false 1 [.nilFunc] 8 := ⟨⟨Tryd.t129, _, by kernel_rfl, rfl, rfl, rfl, rfl⟩, Tryd.isAgg129, Tryd.sizeOf129, ⟨_, Tryd.zeroValue129, rfl⟩, ⟨_, Tryd.typeInfo129, rfl⟩⟩
instance hu129 : HasUnd Tryd.prog 129 := ⟨_, Tryd.runUnderlying129⟩
instance ty130 : Ty Tryd.prog 130 false 1 [.nilFunc] 8 := ⟨⟨Tryd.t130, _, by kernel_rfl, rfl, rfl, rfl, rfl⟩, Tryd.isAgg130, Tryd.sizeOf130, ⟨_, Tryd.zeroValue130, rfl⟩, ⟨_, Tryd.typeInfo130, rfl⟩⟩
instance hu130 : HasUnd Tryd.prog 130 := ⟨_, Tryd.runUnderlying130⟩
instance ty131 : Ty Tryd.prog 131 false 1 [.nilFunc] 8 := ⟨⟨Tryd.t131, _, by kernel_rfl, rfl, rfl, rfl, rfl⟩, Tryd.isAgg131, Tryd.sizeOf131, ⟨_, Tryd.zeroValue131, rfl⟩, ⟨_, Tryd.typeInfo131, rfl⟩⟩
instance hu131 : HasUnd Tryd.prog 131 := ⟨_, Tryd.runUnderlying131⟩
instance ty132 : Ty Tryd.prog 132 false 1 [.nilFunc] 8 := ⟨⟨Tryd.t132, _, by kernel_rfl, rfl, rfl, rfl, rfl⟩, Tryd.isAgg132, Tryd.sizeOf132, ⟨_, Tryd.zeroValue132, rfl⟩, ⟨_, Tryd.typeInfo132, rfl⟩⟩
instance hu132 : HasUnd Tryd.prog 132 := ⟨_, Tryd.runUnderlying132⟩
instance ty133 : Ty Tryd.prog 133 false 1 [.nilFunc] 8 := ⟨⟨Tryd.t133, _, by kernel_rfl, rfl, rfl, rfl, rfl⟩, Tryd.isAgg133, Tryd.sizeOf133, ⟨_, Tryd.zeroValue133, rfl⟩, ⟨_, Tryd.typeInfo133, rfl⟩⟩
instance hu133 : HasUnd Tryd.prog 133 := ⟨_, Tryd.runUnderlying133⟩
instance ty134 : Ty Tryd.prog 134 false 1 [.nilFunc] 8 := ⟨⟨Tryd.t134, _, by kernel_rfl, rfl, rfl, rfl, rfl⟩, Tryd.isAgg134, Tryd.sizeOf134, ⟨_, Tryd.zeroValue134, rfl⟩, ⟨_, Tryd.typeInfo134, rfl⟩⟩
instance hu134 : HasUnd Tryd.prog 134 := ⟨_, Tryd.runUnderlying134⟩
instance ty135 : Ty Tryd.prog 135 false 1 [.nilFunc] 8 := ⟨⟨Tryd.t135, _, by kernel_rfl, rfl, rfl, rfl, rfl⟩, Tryd.isAgg135, Tryd.sizeOf135, ⟨_, Tryd.zeroValue135, rfl⟩, ⟨_, Tryd.typeInfo135, rfl⟩⟩
instance hu135 : HasUnd Tryd.prog 135 := ⟨_, Tryd.runUnderlying135⟩
instance ty136 : Ty Tryd.prog 136 false 1 [.nilFunc] 8 := ⟨⟨Tryd.t136, _, by kernel_rfl, rfl, rfl, rfl, rfl⟩, Tryd.isAgg136, Tryd.sizeOf136, ⟨_, Tryd.zeroValue136, rfl⟩, ⟨_, Tryd.typeInfo136, rfl⟩⟩
instance hu136 : HasUnd Tryd.prog 136 := ⟨_, Tryd.runUnderlying136⟩
instance ty137 : Ty Tryd.prog 137 false 1 [.nilFunc] 8 := ⟨⟨Tryd.t137, _, by kernel_rfl, rfl, rfl, rfl, rfl⟩, Tryd.isAgg137, Tryd.sizeOf137, ⟨_, Tryd.zeroValue137, rfl⟩, ⟨_, Tryd.typeInfo137, rfl⟩⟩
instance hu137 : HasUnd Tryd.prog 137 := ⟨_, Tryd.runUnderlying137⟩
instance ty138 : Ty Tryd.prog 138 false 1 [.nilFunc] 8 := ⟨⟨Tryd.t138, _, by kernel_rfl, rfl, rfl, rfl, rfl⟩, Tryd.isAgg138, Tryd.sizeOf138, ⟨_, Tryd.zeroValue138, rfl⟩, ⟨_, Tryd.typeInfo138, rfl⟩⟩
instance hu138 : HasUnd Tryd.prog 138 := ⟨_, Tryd.runUnderlying138⟩
instance ty139 : Ty Tryd.prog 139 false 1 [.nilFunc] 8 := ⟨⟨Tryd.t139, _, by kernel_rfl, rfl, rfl, rfl, rfl⟩, Tryd.isAgg139, Tryd.sizeOf139, ⟨_, Tryd.zeroValue139, rfl⟩, ⟨_, Tryd.typeInfo139, rfl⟩⟩
instance hu139 : HasUnd Tryd.prog 139 := ⟨_, Tryd.runUnderlying139⟩
instance ty140 : Ty Tryd.prog 140 false 1 [.nilFunc] 8 := ⟨⟨Tryd.t140, _, by kernel_rfl, rfl, rfl, rfl, rfl⟩, Tryd.isAgg140, Tryd.sizeOf140, ⟨_, Tryd.zeroValue140, rfl⟩, ⟨_, Tryd.typeInfo140, rfl⟩⟩
instance hu140 : HasUnd Tryd.prog 140 := ⟨_, Tryd.runUnderlying140⟩
instance ty141 : Ty Tryd.prog 141 false 1 [.nilFunc] 8 := ⟨⟨Tryd.t141, _, by kernel_rfl, rfl, rfl, rfl, rfl⟩, Tryd.isAgg141, Tryd.sizeOf141, ⟨_, Tryd.zeroValue141, rfl⟩, ⟨_, Tryd.typeInfo141, rfl⟩⟩
instance hu141 : HasUnd Tryd.prog 141 := ⟨_, Tryd.runUnderlying141⟩
instance ty142 : Ty Tryd.prog 142 false 1 [.nilFunc] 8 := ⟨⟨Tryd.t142, _, by kernel_rfl, rfl, rfl, rfl, rfl⟩, Tryd.isAgg142, Tryd.sizeOf142, ⟨_, Tryd.zeroValue142, rfl⟩, ⟨_, Tryd.typeInfo142, rfl⟩⟩
instance hu142 : HasUnd Tryd.prog 142 := ⟨_, Tryd.runUnderlying142⟩
instance ty143 : Ty Tryd.prog 143 false 1 [.int .u64 0] 8 := ⟨⟨Tryd.t143, _, by kernel_rfl, rfl, rfl, rfl, rfl⟩, Tryd.isAgg143, Tryd.sizeOf143, ⟨_, Tryd.zeroValue143, rfl⟩, ⟨_, Tryd.typeInfo143, rfl⟩⟩
instance hu143 : HasUnd Tryd.prog 143 := ⟨_, Tryd.runUnderlying143⟩
instance it143 : IntTy Tryd.prog 143 .u64 := ⟨Tryd.runUnderlying143, Tryd.underlying143⟩
instance ty144 : Ty Tryd.prog 144 false 1 [.nilFunc] 8 := ⟨⟨Tryd.t144, _, by kernel_rfl, rfl, rfl, rfl, rfl⟩, Tryd.isAgg144, Tryd.sizeOf144, ⟨_, Tryd.zeroValue144, rfl⟩, ⟨_, Tryd.typeInfo144, rfl⟩⟩
instance hu144 : HasUnd Tryd.prog 144 := ⟨_, Tryd.runUnderlying144⟩
instance ty145 : Ty Tryd.prog 145 false 1 [.int .i64 0] 8 := ⟨⟨Tryd.t145, _, by kernel_rfl, rfl, rfl, rfl, rfl⟩, Tryd.isAgg145, Tryd.sizeOf145, ⟨_, Tryd.zeroValue145, rfl⟩, ⟨_, Tryd.typeInfo145, rfl⟩⟩
instance hu145 : HasUnd Tryd.prog 145 := ⟨_, Tryd.runUnderlying145⟩
instance it145 : IntTy Tryd.prog 145 .i64 := ⟨Tryd.runUnderlying145, Tryd.underlying145⟩
instance hu146 : HasUnd Tryd.prog 146 := ⟨_, Tryd.runUnderlying146⟩
instance ty147 : Ty Tryd.prog 147 false 1 [.nilFunc] 8 := ⟨⟨Tryd.t147, _, by kernel_rfl, rfl, rfl, rfl, rfl⟩, Tryd.isAgg147, Tryd.sizeOf147, ⟨_, Tryd.zeroValue147, rfl⟩, ⟨_, Tryd.typeInfo147, rfl⟩⟩
instance hu147 : HasUnd Tryd.prog 147 := ⟨_, Tryd.runUnderlying147⟩
instance ty148 : Ty Tryd.prog 148 false 1 [.nilFunc] 8 := ⟨⟨Tryd.t148, _, by kernel_rfl, rfl, rfl, rfl, rfl⟩, Tryd.isAgg148, Tryd.sizeOf148, ⟨_, Tryd.zeroValue148, rfl⟩, ⟨_, Tryd.typeInfo148, rfl⟩⟩
instance hu148 : HasUnd Tryd.prog 148 := ⟨_, Tryd.runUnderlying148⟩
instance ty149 : Ty Tryd.prog 149 false 1 [.nilFunc] 8 := ⟨⟨Tryd.t149, _, by kernel_rfl, rfl, rfl, rfl, rfl⟩, Tryd.isAgg149, Tryd.sizeOf149, ⟨_, Tryd.zeroValue149, rfl⟩, ⟨_, Tryd.typeInfo149, rfl⟩⟩
instance hu149 : HasUnd Tryd.prog 149 := ⟨_, Tryd.runUnderlying149⟩
instance ty150 : Ty Tryd.prog 150 false 1 [.nilFunc] 8 := ⟨⟨Tryd.t150, _, by kernel_rfl, rfl, rfl, rfl, rfl⟩, Tryd.isAgg150, Tryd.sizeOf150, ⟨_, Tryd.zeroValue150, rfl⟩, ⟨_, Tryd.typeInfo150, rfl⟩⟩
instance hu150 : HasUnd Tryd.prog 150 := ⟨_, Tryd.runUnderlying150⟩
instance hu151 : HasUnd Tryd.prog 151 := ⟨_, Tryd.runUnderlying151⟩
instance ty152 : Ty Tryd.prog 152 false 1 [.nilFunc] 8 := ⟨⟨Tryd.t152, _, by kernel_rfl, rfl, rfl, rfl, rfl⟩, Tryd.isAgg152, Tryd.sizeOf152, ⟨_, Tryd.zeroValue152, rfl⟩, ⟨_, Tryd.typeInfo152, rfl⟩⟩
instance hu152 : HasUnd Tryd.prog 152 := ⟨_, Tryd.runUnderlying152⟩
instance ty153 : Ty Tryd.prog 153 false 1 [.nilFunc] 8 := ⟨⟨Tryd.t153, _, by kernel_rfl, rfl, rfl, rfl, rfl⟩, Tryd.isAgg153, Tryd.sizeOf153, ⟨_, Tryd.zeroValue153, rfl⟩, ⟨_, Tryd.typeInfo153, rfl⟩⟩
instance hu153 : HasUnd Tryd.prog 153 := ⟨_, Tryd.runUnderlying153⟩
instance ty154 : Ty Tryd.prog 154 false 1 [.int .u32 0] 4 := ⟨⟨Tryd.t154, _, by kernel_rfl, rfl, rfl, rfl, rfl⟩, Tryd.isAgg154, Tryd.sizeOf154, ⟨_, Tryd.zeroValue154, rfl⟩, ⟨_, Tryd.typeInfo154, rfl⟩⟩
instance hu154 : HasUnd Tryd.prog 154 := ⟨_, Tryd.runUnderlying154⟩
instance it154 : IntTy Tryd.prog 154 .u32 := ⟨Tryd.runUnderlying154, Tryd.underlying154⟩
instance ty155 : Ty Tryd.prog 155 false 1 [.int .u64 0] 8 := ⟨⟨Tryd.t155, _, by kernel_rfl, rfl, rfl, rfl, rfl⟩, Tryd.isAgg155, Tryd.sizeOf155, ⟨_, Tryd.zeroValue155, rfl⟩, ⟨_, Tryd.typeInfo155, rfl⟩⟩
instance hu155 : HasUnd Tryd.prog 155 := ⟨_, Tryd.runUnderlying155⟩
instance it155 : IntTy Tryd.prog 155 .u64 := ⟨Tryd.runUnderlying155, Tryd.underlying155⟩
instance ty156 : Ty Tryd.prog 156 false 1 [.nilFunc] 8 := ⟨⟨Tryd.t156, _, by kernel_rfl, rfl, rfl, rfl, rfl⟩, Tryd.isAgg156, Tryd.sizeOf156, ⟨_, Tryd.zeroValue156, rfl⟩, ⟨_, Tryd.typeInfo156, rfl⟩⟩
instance hu156 : HasUnd Tryd.prog 156 := ⟨_, Tryd.runUnderlying156⟩
instance ty157 : Ty Tryd.prog 157 false 1 [.nilFunc] 8 := ⟨⟨Tryd.t157, _, by kernel_rfl, rfl, rfl, rfl, rfl⟩, Tryd.isAgg157, Tryd.sizeOf157, ⟨_, Tryd.zeroValue157, rfl⟩, ⟨_, Tryd.typeInfo157, rfl⟩⟩
instance hu157 : HasUnd Tryd.prog 157 := ⟨_, Tryd.runUnderlying157⟩
instance ty158 : Ty Tryd.prog 158 false 1 [.pointer none] 8 := ⟨⟨Tryd.t158, _, by kernel_rfl, rfl, rfl, rfl, rfl⟩, Tryd.isAgg158, Tryd.sizeOf158, ⟨_, Tryd.zeroValue158, rfl⟩, ⟨_, Tryd.typeInfo158, rfl⟩⟩
instance hu158 : HasUnd Tryd.prog 158 := ⟨_, Tryd.runUnderlying158⟩
instance pt158 : PtrTy Tryd.prog 158 3 := ⟨Tryd.runUnderlying158, Tryd.underlying158⟩
instance ty159 : Ty Tryd.prog 159 false 1 [.nilFunc] 8 := ⟨⟨Tryd.t159, _, by kernel_rfl, rfl, rfl, rfl, rfl⟩, Tryd.isAgg159, Tryd.sizeOf159, ⟨_, Tryd.zeroValue159, rfl⟩, ⟨_, Tryd.typeInfo159, rfl⟩⟩
instance hu159 : HasUnd Tryd.prog 159 := ⟨_, Tryd.runUnderlying159⟩
instance ty160 : Ty Tryd.prog 160 false 1 [.pointer none] 8 := ⟨⟨Tryd.t160, _, by kernel_rfl, rfl, rfl, rfl, rfl⟩, Tryd.isAgg160, Tryd.sizeOf160, ⟨_, Tryd.zeroValue160, rfl⟩, ⟨_, Tryd.typeInfo160, rfl⟩⟩
instance hu160 : HasUnd Tryd.prog 160 := ⟨_, Tryd.runUnderlying160⟩
instance pt160 : PtrTy Tryd.prog 160 155 := ⟨Tryd.runUnderlying160, Tryd.underlying160⟩
instance hu161 : HasUnd Tryd.prog 161 := ⟨_, Tryd.runUnderlying161⟩
instance ty162 : Ty Tryd.prog 162 false 1 [.nilFunc] 8 := ⟨⟨Tryd.t162, _, by kernel_rfl, rfl, rfl, rfl, rfl⟩, Tryd.isAgg162, Tryd.sizeOf162, ⟨_, Tryd.zeroValue162, rfl⟩, ⟨_, Tryd.typeInfo162, rfl⟩⟩
instance hu162 : HasUnd Tryd.prog 162 := ⟨_, Tryd.runUnderlying162⟩
instance ty163 : Ty Tryd.prog 163 false 1 [.nilFunc] 8 := ⟨⟨Tryd.t163, _, by kernel_rfl, rfl, rfl, rfl, rfl⟩, Tryd.isAgg163, Tryd.sizeOf163, ⟨_, Tryd.zeroValue163, rfl⟩, ⟨_, Tryd.typeInfo163, rfl⟩⟩
instance hu163 : HasUnd Tryd.prog 163 := ⟨_, Tryd.runUnderlying163⟩
instance ty164 : Ty Tryd.prog 164 true 4 [.pointer none, .pointer none, .pointer none, .string ⟨#[]⟩] 40 := ⟨⟨Tryd.t164, _, by kernel_rfl, rfl, rfl, rfl, rfl⟩, Tryd.isAgg164, Tryd.sizeOf164, ⟨_, Tryd.zeroValue164, rfl⟩, ⟨_, Tryd.typeInfo164, rfl⟩⟩
instance hu164 : HasUnd Tryd.prog 164 := ⟨_, Tryd.runUnderlying164⟩
instance ss164 : StTy Tryd.prog 164 [(0, 1, false), (1, 1, false), (2, 1, false), (3, 1, false)] := ⟨_, Tryd.runUnderlying164, rfl, fun i off sz ag h => match i, h with
  | 0, h => by simp only [List.getElem?_cons_zero, List.getElem?_cons_succ, Option.some.injEq, Prod.mk.injEq] at h; obtain ⟨rfl, rfl, rfl⟩ := h; exact ⟨_, rfl, rfl, Tryd.sizeOf17, Tryd.isAgg17⟩
  | 1, h => by simp only [List.getElem?_cons_zero, List.getElem?_cons_succ, Option.some.injEq, Prod.mk.injEq] at h; obtain ⟨rfl, rfl, rfl⟩ := h; exact ⟨_, rfl, rfl, Tryd.sizeOf17, Tryd.isAgg17⟩
  | 2, h => by simp only [List.getElem?_cons_zero, List.getElem?_cons_succ, Option.some.injEq, Prod.mk.injEq] at h; obtain ⟨rfl, rfl, rfl⟩ := h; exact ⟨_, rfl, rfl, Tryd.sizeOf17, Tryd.isAgg17⟩
  | 3, h => by simp only [List.getElem?_cons_zero, List.getElem?_cons_succ, Option.some.injEq, Prod.mk.injEq] at h; obtain ⟨rfl, rfl, rfl⟩ := h; exact ⟨_, rfl, rfl, Tryd.sizeOf9, Tryd.isAgg9⟩
  | (i + 4), h => by simp at h⟩
instance ty165 : Ty Tryd.prog 165 true 4 [.pointer none, .pointer none, .pointer none, .string ⟨#[]⟩] 40 := ⟨⟨Tryd.t165, _, by kernel_rfl, rfl, rfl, rfl, rfl⟩, Tryd.isAgg165, Tryd.sizeOf165, ⟨_, Tryd.zeroValue165, rfl⟩, ⟨_, Tryd.typeInfo165, rfl⟩⟩
instance hu165 : HasUnd Tryd.prog 165 := ⟨_, Tryd.runUnderlying165⟩
instance ss165 : StTy Tryd.prog 165 [(0, 1, false), (1, 1, false), (2, 1, false), (3, 1, false)] := ⟨_, Tryd.runUnderlying165, rfl, fun i off sz ag h => match i, h with
  | 0, h => by simp only [List.getElem?_cons_zero, List.getElem?_cons_succ, Option.some.injEq, Prod.mk.injEq] at h; obtain ⟨rfl, rfl, rfl⟩ := h; exact ⟨_, rfl, rfl, Tryd.sizeOf17, Tryd.isAgg17⟩
  | 1, h => by simp only [List.getElem?_cons_zero, List.getElem?_cons_succ, Option.some.injEq, Prod.mk.injEq] at h; obtain ⟨rfl, rfl, rfl⟩ := h; exact ⟨_, rfl, rfl, Tryd.sizeOf17, Tryd.isAgg17⟩
  | 2, h => by simp only [List.getElem?_cons_zero, List.getElem?_cons_succ, Option.some.injEq, Prod.mk.injEq] at h; obtain ⟨rfl, rfl, rfl⟩ := h; exact ⟨_, rfl, rfl, Tryd.sizeOf17, Tryd.isAgg17⟩
  | 3, h => by simp only [List.getElem?_cons_zero, List.getElem?_cons_succ, Option.some.injEq, Prod.mk.injEq] at h; obtain ⟨rfl, rfl, rfl⟩ := h; exact ⟨_, rfl, rfl, Tryd.sizeOf9, Tryd.isAgg9⟩
  | (i + 4), h => by simp at h⟩
instance ty166 : Ty Tryd.prog 166 true 0 [] 0 := ⟨⟨Tryd.t166, _, by kernel_rfl, rfl, rfl, rfl, rfl⟩, Tryd.isAgg166, Tryd.sizeOf166, ⟨_, Tryd.zeroValue166, rfl⟩, ⟨_, Tryd.typeInfo166, rfl⟩⟩
instance hu166 : HasUnd Tryd.prog 166 := ⟨_, Tryd.runUnderlying166⟩
instance at166 : ArrTy Tryd.prog 166 0 16 := ⟨Tryd.runUnderlying166, Tryd.underlying166⟩
instance ty167 : Ty Tryd.prog 167 true 0 [] 0 := ⟨⟨Tryd.t167, _, by kernel_rfl, rfl, rfl, rfl, rfl⟩, Tryd.isAgg167, Tryd.sizeOf167, ⟨_, Tryd.zeroValue167, rfl⟩, ⟨_, Tryd.typeInfo167, rfl⟩⟩
instance hu167 : HasUnd Tryd.prog 167 := ⟨_, Tryd.runUnderlying167⟩
instance ss167 : StTy Tryd.prog 167 [(0, 0, true)] := ⟨_, Tryd.runUnderlying167, rfl, fun i off sz ag h => match i, h with
  | 0, h => by simp only [List.getElem?_cons_zero, List.getElem?_cons_succ, Option.some.injEq, Prod.mk.injEq] at h; obtain ⟨rfl, rfl, rfl⟩ := h; exact ⟨_, rfl, rfl, Tryd.sizeOf166, Tryd.isAgg166⟩
  | (i + 1), h => by simp at h⟩
instance ty168 : Ty Tryd.prog 168 true 0 [] 0 := ⟨⟨Tryd.t168, _, by kernel_rfl, rfl, rfl, rfl, rfl⟩, Tryd.isAgg168, Tryd.sizeOf168, ⟨_, Tryd.zeroValue168, rfl⟩, ⟨_, Tryd.typeInfo168, rfl⟩⟩
instance hu168 : HasUnd Tryd.prog 168 := ⟨_, Tryd.runUnderlying168⟩
instance ss168 : StTy Tryd.prog 168 [(0, 0, true)] := ⟨_, Tryd.runUnderlying168, rfl, fun i off sz ag h => match i, h with
  | 0, h => by simp only [List.getElem?_cons_zero, List.getElem?_cons_succ, Option.some.injEq, Prod.mk.injEq] at h; obtain ⟨rfl, rfl, rfl⟩ := h; exact ⟨_, rfl, rfl, Tryd.sizeOf166, Tryd.isAgg166⟩
  | (i + 1), h => by simp at h⟩
instance ty169 : Ty Tryd.prog 169 false 1 [.int .u8 0] 1 := ⟨⟨Tryd.t169, _, by kernel_rfl, rfl, rfl, rfl, rfl⟩, Tryd.isAgg169, Tryd.sizeOf169, ⟨_, Tryd.zeroValue169, rfl⟩, ⟨_, Tryd.typeInfo169, rfl⟩⟩
instance hu169 : HasUnd Tryd.prog 169 := ⟨_, Tryd.runUnderlying169⟩
instance it169 : IntTy Tryd.prog 169 .u8 := ⟨Tryd.runUnderlying169, Tryd.underlying169⟩
instance ty170 : Ty Tryd.prog 170 false 1 [.int .u8 0] 1 := ⟨⟨Tryd.t170, _, by kernel_rfl, rfl, rfl, rfl, rfl⟩, Tryd.isAgg170, Tryd.sizeOf170, ⟨_, Tryd.zeroValue170, rfl⟩, ⟨_, Tryd.typeInfo170, rfl⟩⟩
instance hu170 : HasUnd Tryd.prog 170 := ⟨_, Tryd.runUnderlying170⟩
instance it170 : IntTy Tryd.prog 170 .u8 := ⟨Tryd.runUnderlying170, Tryd.underlying170⟩
instance ty171 : Ty Tryd.prog 171 false 1 [.nilFunc] 8 := ⟨⟨Tryd.t171, _, by kernel_rfl, rfl, rfl, rfl, rfl⟩, Tryd.isAgg171, Tryd.sizeOf171, ⟨_, Tryd.zeroValue171, rfl⟩, ⟨_, Tryd.typeInfo171, rfl⟩⟩
instance hu171 : HasUnd Tryd.prog 171 := ⟨_, Tryd.runUnderlying171⟩
instance ty172 : Ty Tryd.prog 172 false 1 [.pointer none] 8 := ⟨⟨Tryd.t172, _, by kernel_rfl, rfl, rfl, rfl, rfl⟩, Tryd.isAgg172, Tryd.sizeOf172, ⟨_, Tryd.zeroValue172, rfl⟩, ⟨_, Tryd.typeInfo172, rfl⟩⟩
instance hu172 : HasUnd Tryd.prog 172 := ⟨_, Tryd.runUnderlying172⟩
instance pt172 : PtrTy Tryd.prog 172 5 := ⟨Tryd.runUnderlying172, Tryd.underlying172⟩
instance ty173 : Ty Tryd.prog 173 false 1 [.int .i32 0] 4 := ⟨⟨Tryd.t173, _, by kernel_rfl, rfl, rfl, rfl, rfl⟩, Tryd.isAgg173, Tryd.sizeOf173, ⟨_, Tryd.zeroValue173, rfl⟩, ⟨_, Tryd.typeInfo173, rfl⟩⟩
instance hu173 : HasUnd Tryd.prog 173 := ⟨_, Tryd.runUnderlying173⟩
instance it173 : IntTy Tryd.prog 173 .i32 := ⟨Tryd.runUnderlying173, Tryd.underlying173⟩
instance ty174 : Ty Tryd.prog 174 false 1 [.int .i32 0] 4 := ⟨⟨Tryd.t174, _, by kernel_rfl, rfl, rfl, rfl, rfl⟩, Tryd.isAgg174, Tryd.sizeOf174, ⟨_, Tryd.zeroValue174, rfl⟩, ⟨_, Tryd.typeInfo174, rfl⟩⟩
instance hu174 : HasUnd Tryd.prog 174 := ⟨_, Tryd.runUnderlying174⟩
instance it174 : IntTy Tryd.prog 174 .i32 := ⟨Tryd.runUnderlying174, Tryd.underlying174⟩
instance ty175 : Ty Tryd.prog 175 true 11 [.int .u64 0, .int .u64 0, .int .u32 0, .int .u8 0, .int .u8 0, .int .u8 0, .int .u8 0, .nilFunc, .pointer none, .int .i32 0, .int .i32 0] 48 := ⟨⟨Tryd.t175, _, by kernel_rfl, rfl, rfl, rfl, rfl⟩, Tryd.isAgg175, Tryd.sizeOf175, ⟨_, Tryd.zeroValue175, rfl⟩, ⟨_, Tryd.typeInfo175, rfl⟩⟩
instance hu175 : HasUnd Tryd.prog 175 := ⟨_, Tryd.runUnderlying175⟩
instance ss175 : StTy Tryd.prog 175 [(0, 1, false), (1, 1, false), (2, 1, false), (3, 1, false), (4, 1, false), (5, 1, false), (6, 1, false), (7, 1, false), (8, 1, false), (9, 1, false), (10, 1, false)] := ⟨_, Tryd.runUnderlying175, rfl, fun i off sz ag h => match i, h with
  | 0, h => by simp only [List.getElem?_cons_zero, List.getElem?_cons_succ, Option.some.injEq, Prod.mk.injEq] at h; obtain ⟨rfl, rfl, rfl⟩ := h; exact ⟨_, rfl, rfl, Tryd.sizeOf12, Tryd.isAgg12⟩
  | 1, h => by simp only [List.getElem?_cons_zero, List.getElem?_cons_succ, Option.some.injEq, Prod.mk.injEq] at h; obtain ⟨rfl, rfl, rfl⟩ := h; exact ⟨_, rfl, rfl, Tryd.sizeOf12, Tryd.isAgg12⟩
  | 2, h => by simp only [List.getElem?_cons_zero, List.getElem?_cons_succ, Option.some.injEq, Prod.mk.injEq] at h; obtain ⟨rfl, rfl, rfl⟩ := h; exact ⟨_, rfl, rfl, Tryd.sizeOf154, Tryd.isAgg154⟩
  | 3, h => by simp only [List.getElem?_cons_zero, List.getElem?_cons_succ, Option.some.injEq, Prod.mk.injEq] at h; obtain ⟨rfl, rfl, rfl⟩ := h; exact ⟨_, rfl, rfl, Tryd.sizeOf169, Tryd.isAgg169⟩
  | 4, h => by simp only [List.getElem?_cons_zero, List.getElem?_cons_succ, Option.some.injEq, Prod.mk.injEq] at h; obtain ⟨rfl, rfl, rfl⟩ := h; exact ⟨_, rfl, rfl, Tryd.sizeOf5, Tryd.isAgg5⟩
  | 5, h => by simp only [List.getElem?_cons_zero, List.getElem?_cons_succ, Option.some.injEq, Prod.mk.injEq] at h; obtain ⟨rfl, rfl, rfl⟩ := h; exact ⟨_, rfl, rfl, Tryd.sizeOf5, Tryd.isAgg5⟩
  | 6, h => by simp only [List.getElem?_cons_zero, List.getElem?_cons_succ, Option.some.injEq, Prod.mk.injEq] at h; obtain ⟨rfl, rfl, rfl⟩ := h; exact ⟨_, rfl, rfl, Tryd.sizeOf170, Tryd.isAgg170⟩
  | 7, h => by simp only [List.getElem?_cons_zero, List.getElem?_cons_succ, Option.some.injEq, Prod.mk.injEq] at h; obtain ⟨rfl, rfl, rfl⟩ := h; exact ⟨_, rfl, rfl, Tryd.sizeOf171, Tryd.isAgg171⟩
  | 8, h => by simp only [List.getElem?_cons_zero, List.getElem?_cons_succ, Option.some.injEq, Prod.mk.injEq] at h; obtain ⟨rfl, rfl, rfl⟩ := h; exact ⟨_, rfl, rfl, Tryd.sizeOf172, Tryd.isAgg172⟩
  | 9, h => by simp only [List.getElem?_cons_zero, List.getElem?_cons_succ, Option.some.injEq, Prod.mk.injEq] at h; obtain ⟨rfl, rfl, rfl⟩ := h; exact ⟨_, rfl, rfl, Tryd.sizeOf173, Tryd.isAgg173⟩
  | 10, h => by simp only [List.getElem?_cons_zero, List.getElem?_cons_succ, Option.some.injEq, Prod.mk.injEq] at h; obtain ⟨rfl, rfl, rfl⟩ := h; exact ⟨_, rfl, rfl, Tryd.sizeOf174, Tryd.isAgg174⟩
  | (i + 11), h => by simp at h⟩
instance ty176 : Ty Tryd.prog 176 true 11 [.int .u64 0, .int .u64 0, .int .u32 0, .int .u8 0, .int .u8 0, .int .u8 0, .int .u8 0, .nilFunc, .pointer none, .int .i32 0, .int .i32 0] 48 := ⟨⟨Tryd.t176, _, by kernel_rfl, rfl, rfl, rfl, rfl⟩, Tryd.isAgg176, Tryd.sizeOf176, ⟨_, Tryd.zeroValue176, rfl⟩, ⟨_, Tryd.typeInfo176, rfl⟩⟩
instance hu176 : HasUnd Tryd.prog 176 := ⟨_, Tryd.runUnderlying176⟩
instance ss176 : StTy Tryd.prog 176 [(0, 1, false), (1, 1, false), (2, 1, false), (3, 1, false), (4, 1, false), (5, 1, false), (6, 1, false), (7, 1, false), (8, 1, false), (9, 1, false), (10, 1, false)] := ⟨_, Tryd.runUnderlying176, rfl, fun i off sz ag h => match i, h with
  | 0, h => by simp only [List.getElem?_cons_zero, List.getElem?_cons_succ, Option.some.injEq, Prod.mk.injEq] at h; obtain ⟨rfl, rfl, rfl⟩ := h; exact ⟨_, rfl, rfl, Tryd.sizeOf12, Tryd.isAgg12⟩
  | 1, h => by simp only [List.getElem?_cons_zero, List.getElem?_cons_succ, Option.some.injEq, Prod.mk.injEq] at h; obtain ⟨rfl, rfl, rfl⟩ := h; exact ⟨_, rfl, rfl, Tryd.sizeOf12, Tryd.isAgg12⟩
  | 2, h => by simp only [List.getElem?_cons_zero, List.getElem?_cons_succ, Option.some.injEq, Prod.mk.injEq] at h; obtain ⟨rfl, rfl, rfl⟩ := h; exact ⟨_, rfl, rfl, Tryd.sizeOf154, Tryd.isAgg154⟩
  | 3, h => by simp only [List.getElem?_cons_zero, List.getElem?_cons_succ, Option.some.injEq, Prod.mk.injEq] at h; obtain ⟨rfl, rfl, rfl⟩ := h; exact ⟨_, rfl, rfl, Tryd.sizeOf169, Tryd.isAgg169⟩
  | 4, h => by simp only [List.getElem?_cons_zero, List.getElem?_cons_succ, Option.some.injEq, Prod.mk.injEq] at h; obtain ⟨rfl, rfl, rfl⟩ := h; exact ⟨_, rfl, rfl, Tryd.sizeOf5, Tryd.isAgg5⟩
  | 5, h => by simp only [List.getElem?_cons_zero, List.getElem?_cons_succ, Option.some.injEq, Prod.mk.injEq] at h; obtain ⟨rfl, rfl, rfl⟩ := h; exact ⟨_, rfl, rfl, Tryd.sizeOf5, Tryd.isAgg5⟩
  | 6, h => by simp only [List.getElem?_cons_zero, List.getElem?_cons_succ, Option.some.injEq, Prod.mk.injEq] at h; obtain ⟨rfl, rfl, rfl⟩ := h; exact ⟨_, rfl, rfl, Tryd.sizeOf170, Tryd.isAgg170⟩
  | 7, h => by simp only [List.getElem?_cons_zero, List.getElem?_cons_succ, Option.some.injEq, Prod.mk.injEq] at h; obtain ⟨rfl, rfl, rfl⟩ := h; exact ⟨_, rfl, rfl, Tryd.sizeOf171, Tryd.isAgg171⟩
  | 8, h => by simp only [List.getElem?_cons_zero, List.getElem?_cons_succ, Option.some.injEq, Prod.mk.injEq] at h; obtain ⟨rfl, rfl, rfl⟩ := h; exact ⟨_, rfl, rfl, Tryd.sizeOf172, Tryd.isAgg172⟩
  | 9, h => by simp only [List.getElem?_cons_zero, List.getElem?_cons_succ, Option.some.injEq, Prod.mk.injEq] at h; obtain ⟨rfl, rfl, rfl⟩ := h; exact ⟨_, rfl, rfl, Tryd.sizeOf173, Tryd.isAgg173⟩
  | 10, h => by simp only [List.getElem?_cons_zero, List.getElem?_cons_succ, Option.some.injEq, Prod.mk.injEq] at h; obtain ⟨rfl, rfl, rfl⟩ := h; exact ⟨_, rfl, rfl, Tryd.sizeOf174, Tryd.isAgg174⟩
  | (i + 11), h => by simp at h⟩
instance ty177 : Ty Tryd.prog 177 false 1 [.pointer none] 8 := ⟨⟨Tryd.t177, _, by kernel_rfl, rfl, rfl, rfl, rfl⟩, Tryd.isAgg177, Tryd.sizeOf177, ⟨_, Tryd.zeroValue177, rfl⟩, ⟨_, Tryd.typeInfo177, rfl⟩⟩
instance hu177 : HasUnd Tryd.prog 177 := ⟨_, Tryd.runUnderlying177⟩
instance en3 : Enters Tryd.prog 3 := ⟨Tryd.call3⟩
instance en4 : Enters Tryd.prog 4 := ⟨Tryd.call4⟩
instance en5 : Enters Tryd.prog 5 := ⟨Tryd.call5⟩
instance en6 : Enters Tryd.prog 6 := ⟨Tryd.call6⟩
instance en7 : Enters Tryd.prog 7 := ⟨Tryd.call7⟩
instance en8 : Enters Tryd.prog 8 := ⟨Tryd.call8⟩
instance en9 : Enters Tryd.prog 9 := ⟨Tryd.call9⟩
instance en10 : Enters Tryd.prog 10 := ⟨Tryd.call10⟩
instance en11 : Enters Tryd.prog 11 := ⟨Tryd.call11⟩
instance en12 : Enters Tryd.prog 12 := ⟨Tryd.call12⟩
instance en13 : Enters Tryd.prog 13 := ⟨Tryd.call13⟩
instance en14 : Enters Tryd.prog 14 := ⟨Tryd.call14⟩
instance en15 : Enters Tryd.prog 15 := ⟨Tryd.call15⟩
instance en16 : Enters Tryd.prog 16 := ⟨Tryd.call16⟩
instance en17 : Enters Tryd.prog 17 := ⟨Tryd.call17⟩
instance en18 : Enters Tryd.prog 18 := ⟨Tryd.call18⟩
instance en19 : Enters Tryd.prog 19 := ⟨Tryd.call19⟩
instance en20 : Enters Tryd.prog 20 := ⟨Tryd.call20⟩
instance en21 : Enters Tryd.prog 21 := ⟨Tryd.call21⟩
instance en22 : Enters Tryd.prog 22 := ⟨Tryd.call22⟩
instance en23 : Enters Tryd.prog 23 := ⟨Tryd.call23⟩
instance en24 : Enters Tryd.prog 24 := ⟨Tryd.call24⟩
instance en25 : Enters Tryd.prog 25 := ⟨Tryd.call25⟩
instance en26 : Enters Tryd.prog 26 := ⟨Tryd.call26⟩
instance en27 : Enters Tryd.prog 27 := ⟨Tryd.call27⟩
instance en28 : Enters Tryd.prog 28 := ⟨Tryd.call28⟩
instance en29 : Enters Tryd.prog 29 := ⟨Tryd.call29⟩
instance en30 : Enters Tryd.prog 30 := ⟨Tryd.call30⟩
instance en31 : Enters Tryd.prog 31 := ⟨Tryd.call31⟩
instance en32 : Enters Tryd.prog 32 := ⟨Tryd.call32⟩
instance en33 : Enters Tryd.prog 33 := ⟨Tryd.call33⟩
instance en34 : Enters Tryd.prog 34 := ⟨Tryd.call34⟩
instance en35 : Enters Tryd.prog 35 := ⟨Tryd.call35⟩
instance en36 : Enters Tryd.prog 36 := ⟨Tryd.call36⟩
instance en37 : Enters Tryd.prog 37 := ⟨Tryd.call37⟩
instance en38 : Enters Tryd.prog 38 := ⟨Tryd.call38⟩
instance en39 : Enters Tryd.prog 39 := ⟨Tryd.call39⟩
instance en40 : Enters Tryd.prog 40 := ⟨Tryd.call40⟩
instance en41 : Enters Tryd.prog 41 := ⟨Tryd.call41⟩
instance en42 : Enters Tryd.prog 42 := ⟨Tryd.call42⟩
instance en43 : Enters Tryd.prog 43 := ⟨Tryd.call43⟩
instance en44 : Enters Tryd.prog 44 := ⟨Tryd.call44⟩
instance en45 : Enters Tryd.prog 45 := ⟨Tryd.call45⟩
instance en46 : Enters Tryd.prog 46 := ⟨Tryd.call46⟩
instance en47 : Enters Tryd.prog 47 := ⟨Tryd.call47⟩
instance en48 : Enters Tryd.prog 48 := ⟨Tryd.call48⟩
instance en49 : Enters Tryd.prog 49 := ⟨Tryd.call49⟩
instance en50 : Enters Tryd.prog 50 := ⟨Tryd.call50⟩
instance en51 : Enters Tryd.prog 51 := ⟨Tryd.call51⟩
instance en52 : Enters Tryd.prog 52 := ⟨Tryd.call52⟩
instance en53 : Enters Tryd.prog 53 := ⟨Tryd.call53⟩
instance en54 : Enters Tryd.prog 54 := ⟨Tryd.call54⟩
instance en55 : Enters Tryd.prog 55 := ⟨Tryd.call55⟩
instance en56 : Enters Tryd.prog 56 := ⟨Tryd.call56⟩
instance en57 : Enters Tryd.prog 57 := ⟨Tryd.call57⟩
instance en58 : Enters Tryd.prog 58 := ⟨Tryd.call58⟩
instance en59 : Enters Tryd.prog 59 := ⟨Tryd.call59⟩
instance en60 : Enters Tryd.prog 60 := ⟨Tryd.call60⟩
instance en61 : Enters Tryd.prog 61 := ⟨Tryd.call61⟩
instance en62 : Enters Tryd.prog 62 := ⟨Tryd.call62⟩
instance en63 : Enters Tryd.prog 63 := ⟨Tryd.call63⟩
instance en64 : Enters Tryd.prog 64 := ⟨Tryd.call64⟩
instance en65 : Enters Tryd.prog 65 := ⟨Tryd.call65⟩
instance en66 : Enters Tryd.prog 66 := ⟨Tryd.call66⟩
instance en67 : Enters Tryd.prog 67 := ⟨Tryd.call67⟩
instance en68 : Enters Tryd.prog 68 := ⟨Tryd.call68⟩
instance en69 : Enters Tryd.prog 69 := ⟨Tryd.call69⟩
instance en70 : Enters Tryd.prog 70 := ⟨Tryd.call70⟩
instance en71 : Enters Tryd.prog 71 := ⟨Tryd.call71⟩
instance en72 : Enters Tryd.prog 72 := ⟨Tryd.call72⟩
instance en73 : Enters Tryd.prog 73 := ⟨Tryd.call73⟩
instance en74 : Enters Tryd.prog 74 := ⟨Tryd.call74⟩
instance en75 : Enters Tryd.prog 75 := ⟨Tryd.call75⟩
instance en76 : Enters Tryd.prog 76 := ⟨Tryd.call76⟩
instance en77 : Enters Tryd.prog 77 := ⟨Tryd.call77⟩
instance en78 : Enters Tryd.prog 78 := ⟨Tryd.call78⟩
instance en79 : Enters Tryd.prog 79 := ⟨Tryd.call79⟩
instance en80 : Enters Tryd.prog 80 := ⟨Tryd.call80⟩
instance en81 : Enters Tryd.prog 81 := ⟨Tryd.call81⟩
instance en82 : Enters Tryd.prog 82 := ⟨Tryd.call82⟩
instance en83 : Enters Tryd.prog 83 := ⟨Tryd.call83⟩
instance en84 : Enters Tryd.prog 84 := ⟨Tryd.call84⟩
instance en85 : Enters Tryd.prog 85 := ⟨Tryd.call85⟩
instance en86 : Enters Tryd.prog 86 := ⟨Tryd.call86⟩
instance en87 : Enters Tryd.prog 87 := ⟨Tryd.call87⟩
instance en88 : Enters Tryd.prog 88 := ⟨Tryd.call88⟩
instance en89 : Enters Tryd.prog 89 := ⟨Tryd.call89⟩
instance en90 : Enters Tryd.prog 90 := ⟨Tryd.call90⟩
instance en91 : Enters Tryd.prog 91 := ⟨Tryd.call91⟩
instance en92 : Enters Tryd.prog 92 := ⟨Tryd.call92⟩
instance en93 : Enters Tryd.prog 93 := ⟨Tryd.call93⟩
instance en94 : Enters Tryd.prog 94 := ⟨Tryd.call94⟩
instance en95 : Enters Tryd.prog 95 := ⟨Tryd.call95⟩
end Go.Proofs.YtjidejcehmamkaaDoor
