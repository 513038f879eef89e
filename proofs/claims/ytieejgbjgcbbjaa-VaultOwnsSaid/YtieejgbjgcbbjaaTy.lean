/- Facts on the types of the program, one by one. No condition. By a program (wip/gen/gsa.py). -/
import Derived.Test.YtieejgbjgcbbjaaProg
import Derived.Test.YtieejgbjgcbbjaaSxG
import Derived.KernelRfl
namespace Go.Proofs.Ytieejgbjgcbbjaa
open Go Go.SX
instance hu0 : HasUnd Try.prog 0 := ⟨_, Try.runUnderlying0⟩
instance ty1 : Ty Try.prog 1 false 1 [.nilFunc] 8 := ⟨⟨Try.t1, _, by kernel_rfl, rfl, rfl, rfl, rfl⟩, Try.isAgg1, Try.sizeOf1, ⟨_, Try.zeroValue1, rfl⟩, ⟨_, Try.typeInfo1, rfl⟩⟩
instance hu1 : HasUnd Try.prog 1 := ⟨_, Try.runUnderlying1⟩
instance ty2 : Ty Try.prog 2 false 1 [.int .i64 0] 8 := ⟨⟨Try.t2, _, by kernel_rfl, rfl, rfl, rfl, rfl⟩, Try.isAgg2, Try.sizeOf2, ⟨_, Try.zeroValue2, rfl⟩, ⟨_, Try.typeInfo2, rfl⟩⟩
instance hu2 : HasUnd Try.prog 2 := ⟨_, Try.runUnderlying2⟩
instance it2 : IntTy Try.prog 2 .i64 := ⟨Try.runUnderlying2, Try.underlying2⟩
instance ty3 : Ty Try.prog 3 false 1 [.int .i64 0] 8 := ⟨⟨Try.t3, _, by kernel_rfl, rfl, rfl, rfl, rfl⟩, Try.isAgg3, Try.sizeOf3, ⟨_, Try.zeroValue3, rfl⟩, ⟨_, Try.typeInfo3, rfl⟩⟩
instance hu3 : HasUnd Try.prog 3 := ⟨_, Try.runUnderlying3⟩
instance it3 : IntTy Try.prog 3 .i64 := ⟨Try.runUnderlying3, Try.underlying3⟩
instance ty4 : Ty Try.prog 4 false 1 [.bool false] 1 := ⟨⟨Try.t4, _, by kernel_rfl, rfl, rfl, rfl, rfl⟩, Try.isAgg4, Try.sizeOf4, ⟨_, Try.zeroValue4, rfl⟩, ⟨_, Try.typeInfo4, rfl⟩⟩
instance hu4 : HasUnd Try.prog 4 := ⟨_, Try.runUnderlying4⟩
instance bt4 : BoolTy Try.prog 4 := ⟨Try.underlying4⟩
instance ty5 : Ty Try.prog 5 false 1 [.int .u8 0] 1 := ⟨⟨Try.t5, _, by kernel_rfl, rfl, rfl, rfl, rfl⟩, Try.isAgg5, Try.sizeOf5, ⟨_, Try.zeroValue5, rfl⟩, ⟨_, Try.typeInfo5, rfl⟩⟩
instance hu5 : HasUnd Try.prog 5 := ⟨_, Try.runUnderlying5⟩
instance it5 : IntTy Try.prog 5 .u8 := ⟨Try.runUnderlying5, Try.underlying5⟩
instance ty6 : Ty Try.prog 6 false 1 [.int .u8 0] 1 := ⟨⟨Try.t6, _, by kernel_rfl, rfl, rfl, rfl, rfl⟩, Try.isAgg6, Try.sizeOf6, ⟨_, Try.zeroValue6, rfl⟩, ⟨_, Try.typeInfo6, rfl⟩⟩
instance hu6 : HasUnd Try.prog 6 := ⟨_, Try.runUnderlying6⟩
instance it6 : IntTy Try.prog 6 .u8 := ⟨Try.runUnderlying6, Try.underlying6⟩
instance ty7 : Ty Try.prog 7 true 4 [.int .i64 0, .int .i64 0, .bool false, .int .u8 0] 24 := ⟨⟨Try.t7, _, by kernel_rfl, rfl, rfl, rfl, rfl⟩, Try.isAgg7, Try.sizeOf7, ⟨_, Try.zeroValue7, rfl⟩, ⟨_, Try.typeInfo7, rfl⟩⟩
instance hu7 : HasUnd Try.prog 7 := ⟨_, Try.runUnderlying7⟩
instance ss7 : StTy Try.prog 7 [(0, 1, false), (1, 1, false), (2, 1, false), (3, 1, false)] := ⟨_, Try.runUnderlying7, rfl, fun i off sz ag h => match i, h with
  | 0, h => by simp only [List.getElem?_cons_zero, List.getElem?_cons_succ, Option.some.injEq, Prod.mk.injEq] at h; obtain ⟨rfl, rfl, rfl⟩ := h; exact ⟨_, rfl, rfl, Try.sizeOf2, Try.isAgg2⟩
  | 1, h => by simp only [List.getElem?_cons_zero, List.getElem?_cons_succ, Option.some.injEq, Prod.mk.injEq] at h; obtain ⟨rfl, rfl, rfl⟩ := h; exact ⟨_, rfl, rfl, Try.sizeOf3, Try.isAgg3⟩
  | 2, h => by simp only [List.getElem?_cons_zero, List.getElem?_cons_succ, Option.some.injEq, Prod.mk.injEq] at h; obtain ⟨rfl, rfl, rfl⟩ := h; exact ⟨_, rfl, rfl, Try.sizeOf4, Try.isAgg4⟩
  | 3, h => by simp only [List.getElem?_cons_zero, List.getElem?_cons_succ, Option.some.injEq, Prod.mk.injEq] at h; obtain ⟨rfl, rfl, rfl⟩ := h; exact ⟨_, rfl, rfl, Try.sizeOf6, Try.isAgg6⟩
  | (i + 4), h => by simp at h⟩
instance ty8 : Ty Try.prog 8 true 4 [.int .i64 0, .int .i64 0, .bool false, .int .u8 0] 24 := ⟨⟨Try.t8, _, by kernel_rfl, rfl, rfl, rfl, rfl⟩, Try.isAgg8, Try.sizeOf8, ⟨_, Try.zeroValue8, rfl⟩, ⟨_, Try.typeInfo8, rfl⟩⟩
instance hu8 : HasUnd Try.prog 8 := ⟨_, Try.runUnderlying8⟩
instance ss8 : StTy Try.prog 8 [(0, 1, false), (1, 1, false), (2, 1, false), (3, 1, false)] := ⟨_, Try.runUnderlying8, rfl, fun i off sz ag h => match i, h with
  | 0, h => by simp only [List.getElem?_cons_zero, List.getElem?_cons_succ, Option.some.injEq, Prod.mk.injEq] at h; obtain ⟨rfl, rfl, rfl⟩ := h; exact ⟨_, rfl, rfl, Try.sizeOf2, Try.isAgg2⟩
  | 1, h => by simp only [List.getElem?_cons_zero, List.getElem?_cons_succ, Option.some.injEq, Prod.mk.injEq] at h; obtain ⟨rfl, rfl, rfl⟩ := h; exact ⟨_, rfl, rfl, Try.sizeOf3, Try.isAgg3⟩
  | 2, h => by simp only [List.getElem?_cons_zero, List.getElem?_cons_succ, Option.some.injEq, Prod.mk.injEq] at h; obtain ⟨rfl, rfl, rfl⟩ := h; exact ⟨_, rfl, rfl, Try.sizeOf4, Try.isAgg4⟩
  | 3, h => by simp only [List.getElem?_cons_zero, List.getElem?_cons_succ, Option.some.injEq, Prod.mk.injEq] at h; obtain ⟨rfl, rfl, rfl⟩ := h; exact ⟨_, rfl, rfl, Try.sizeOf6, Try.isAgg6⟩
  | (i + 4), h => by simp at h⟩
instance ty9 : Ty Try.prog 9 false 1 [.string ⟨#[]⟩] 16 := ⟨⟨Try.t9, _, by kernel_rfl, rfl, rfl, rfl, rfl⟩, Try.isAgg9, Try.sizeOf9, ⟨_, Try.zeroValue9, rfl⟩, ⟨_, Try.typeInfo9, rfl⟩⟩
instance hu9 : HasUnd Try.prog 9 := ⟨_, Try.runUnderlying9⟩
instance st9 : StrTy Try.prog 9 := ⟨Try.runUnderlying9, Try.underlying9⟩
instance ty10 : Ty Try.prog 10 false 1 [.string ⟨#[]⟩] 16 := ⟨⟨Try.t10, _, by kernel_rfl, rfl, rfl, rfl, rfl⟩, Try.isAgg10, Try.sizeOf10, ⟨_, Try.zeroValue10, rfl⟩, ⟨_, Try.typeInfo10, rfl⟩⟩
instance hu10 : HasUnd Try.prog 10 := ⟨_, Try.runUnderlying10⟩
instance st10 : StrTy Try.prog 10 := ⟨Try.runUnderlying10, Try.underlying10⟩
instance ty11 : Ty Try.prog 11 false 1 [.string ⟨#[]⟩] 16 := ⟨⟨Try.t11, _, by kernel_rfl, rfl, rfl, rfl, rfl⟩, Try.isAgg11, Try.sizeOf11, ⟨_, Try.zeroValue11, rfl⟩, ⟨_, Try.typeInfo11, rfl⟩⟩
instance hu11 : HasUnd Try.prog 11 := ⟨_, Try.runUnderlying11⟩
instance st11 : StrTy Try.prog 11 := ⟨Try.runUnderlying11, Try.underlying11⟩
instance ty12 : Ty Try.prog 12 false 1 [.int .u64 0] 8 := ⟨⟨Try.t12, _, by kernel_rfl, rfl, rfl, rfl, rfl⟩, Try.isAgg12, Try.sizeOf12, ⟨_, Try.zeroValue12, rfl⟩, ⟨_, Try.typeInfo12, rfl⟩⟩
instance hu12 : HasUnd Try.prog 12 := ⟨_, Try.runUnderlying12⟩
instance it12 : IntTy Try.prog 12 .u64 := ⟨Try.runUnderlying12, Try.underlying12⟩
instance ty13 : Ty Try.prog 13 true 2 [.string ⟨#[]⟩, .int .u64 0] 24 := ⟨⟨Try.t13, _, by kernel_rfl, rfl, rfl, rfl, rfl⟩, Try.isAgg13, Try.sizeOf13, ⟨_, Try.zeroValue13, rfl⟩, ⟨_, Try.typeInfo13, rfl⟩⟩
instance hu13 : HasUnd Try.prog 13 := ⟨_, Try.runUnderlying13⟩
instance ss13 : StTy Try.prog 13 [(0, 1, false), (1, 1, false)] := ⟨_, Try.runUnderlying13, rfl, fun i off sz ag h => match i, h with
  | 0, h => by simp only [List.getElem?_cons_zero, List.getElem?_cons_succ, Option.some.injEq, Prod.mk.injEq] at h; obtain ⟨rfl, rfl, rfl⟩ := h; exact ⟨_, rfl, rfl, Try.sizeOf9, Try.isAgg9⟩
  | 1, h => by simp only [List.getElem?_cons_zero, List.getElem?_cons_succ, Option.some.injEq, Prod.mk.injEq] at h; obtain ⟨rfl, rfl, rfl⟩ := h; exact ⟨_, rfl, rfl, Try.sizeOf12, Try.isAgg12⟩
  | (i + 2), h => by simp at h⟩
instance ty14 : Ty Try.prog 14 true 2 [.string ⟨#[]⟩, .int .u64 0] 24 := ⟨⟨Try.t14, _, by kernel_rfl, rfl, rfl, rfl, rfl⟩, Try.isAgg14, Try.sizeOf14, ⟨_, Try.zeroValue14, rfl⟩, ⟨_, Try.typeInfo14, rfl⟩⟩
instance hu14 : HasUnd Try.prog 14 := ⟨_, Try.runUnderlying14⟩
instance ss14 : StTy Try.prog 14 [(0, 1, false), (1, 1, false)] := ⟨_, Try.runUnderlying14, rfl, fun i off sz ag h => match i, h with
  | 0, h => by simp only [List.getElem?_cons_zero, List.getElem?_cons_succ, Option.some.injEq, Prod.mk.injEq] at h; obtain ⟨rfl, rfl, rfl⟩ := h; exact ⟨_, rfl, rfl, Try.sizeOf9, Try.isAgg9⟩
  | 1, h => by simp only [List.getElem?_cons_zero, List.getElem?_cons_succ, Option.some.injEq, Prod.mk.injEq] at h; obtain ⟨rfl, rfl, rfl⟩ := h; exact ⟨_, rfl, rfl, Try.sizeOf12, Try.isAgg12⟩
  | (i + 2), h => by simp at h⟩
instance ty15 : Ty Try.prog 15 false 1 [.pointer none] 8 := ⟨⟨Try.t15, _, by kernel_rfl, rfl, rfl, rfl, rfl⟩, Try.isAgg15, Try.sizeOf15, ⟨_, Try.zeroValue15, rfl⟩, ⟨_, Try.typeInfo15, rfl⟩⟩
instance hu15 : HasUnd Try.prog 15 := ⟨_, Try.runUnderlying15⟩
instance pt15 : PtrTy Try.prog 15 182 := ⟨Try.runUnderlying15, Try.underlying15⟩
instance ty16 : Ty Try.prog 16 false 1 [.pointer none] 8 := ⟨⟨Try.t16, _, by kernel_rfl, rfl, rfl, rfl, rfl⟩, Try.isAgg16, Try.sizeOf16, ⟨_, Try.zeroValue16, rfl⟩, ⟨_, Try.typeInfo16, rfl⟩⟩
instance hu16 : HasUnd Try.prog 16 := ⟨_, Try.runUnderlying16⟩
instance pt16 : PtrTy Try.prog 16 185 := ⟨Try.runUnderlying16, Try.underlying16⟩
instance ty17 : Ty Try.prog 17 false 1 [.pointer none] 8 := ⟨⟨Try.t17, _, by kernel_rfl, rfl, rfl, rfl, rfl⟩, Try.isAgg17, Try.sizeOf17, ⟨_, Try.zeroValue17, rfl⟩, ⟨_, Try.typeInfo17, rfl⟩⟩
instance hu17 : HasUnd Try.prog 17 := ⟨_, Try.runUnderlying17⟩
instance pt17 : PtrTy Try.prog 17 193 := ⟨Try.runUnderlying17, Try.underlying17⟩
instance ty18 : Ty Try.prog 18 true 1 [.pointer none] 8 := ⟨⟨Try.t18, _, by kernel_rfl, rfl, rfl, rfl, rfl⟩, Try.isAgg18, Try.sizeOf18, ⟨_, Try.zeroValue18, rfl⟩, ⟨_, Try.typeInfo18, rfl⟩⟩
instance hu18 : HasUnd Try.prog 18 := ⟨_, Try.runUnderlying18⟩
instance ss18 : StTy Try.prog 18 [(0, 1, false)] := ⟨_, Try.runUnderlying18, rfl, fun i off sz ag h => match i, h with
  | 0, h => by simp only [List.getElem?_cons_zero, List.getElem?_cons_succ, Option.some.injEq, Prod.mk.injEq] at h; obtain ⟨rfl, rfl, rfl⟩ := h; exact ⟨_, rfl, rfl, Try.sizeOf17, Try.isAgg17⟩
  | (i + 1), h => by simp at h⟩
instance ty19 : Ty Try.prog 19 true 1 [.pointer none] 8 := ⟨⟨Try.t19, _, by kernel_rfl, rfl, rfl, rfl, rfl⟩, Try.isAgg19, Try.sizeOf19, ⟨_, Try.zeroValue19, rfl⟩, ⟨_, Try.typeInfo19, rfl⟩⟩
instance hu19 : HasUnd Try.prog 19 := ⟨_, Try.runUnderlying19⟩
instance ss19 : StTy Try.prog 19 [(0, 1, false)] := ⟨_, Try.runUnderlying19, rfl, fun i off sz ag h => match i, h with
  | 0, h => by simp only [List.getElem?_cons_zero, List.getElem?_cons_succ, Option.some.injEq, Prod.mk.injEq] at h; obtain ⟨rfl, rfl, rfl⟩ := h; exact ⟨_, rfl, rfl, Try.sizeOf17, Try.isAgg17⟩
  | (i + 1), h => by simp at h⟩
instance ty20 : Ty Try.prog 20 false 1 [.nilIface] 16 := ⟨⟨Try.t20, _, by kernel_rfl, rfl, rfl, rfl, rfl⟩, Try.isAgg20, Try.sizeOf20, ⟨_, Try.zeroValue20, rfl⟩, ⟨_, Try.typeInfo20, rfl⟩⟩
instance hu20 : HasUnd Try.prog 20 := ⟨_, Try.runUnderlying20⟩
instance ty21 : Ty Try.prog 21 false 1 [.int .i32 0] 4 := ⟨⟨Try.t21, _, by kernel_rfl, rfl, rfl, rfl, rfl⟩, Try.isAgg21, Try.sizeOf21, ⟨_, Try.zeroValue21, rfl⟩, ⟨_, Try.typeInfo21, rfl⟩⟩
instance hu21 : HasUnd Try.prog 21 := ⟨_, Try.runUnderlying21⟩
instance it21 : IntTy Try.prog 21 .i32 := ⟨Try.runUnderlying21, Try.underlying21⟩
instance ty22 : Ty Try.prog 22 false 1 [.slice none 0 0] 24 := ⟨⟨Try.t22, _, by kernel_rfl, rfl, rfl, rfl, rfl⟩, Try.isAgg22, Try.sizeOf22, ⟨_, Try.zeroValue22, rfl⟩, ⟨_, Try.typeInfo22, rfl⟩⟩
instance hu22 : HasUnd Try.prog 22 := ⟨_, Try.runUnderlying22⟩
instance sl22 : SlTy Try.prog 22 39 := ⟨Try.runUnderlying22, Try.underlying22⟩
instance ty23 : Ty Try.prog 23 false 1 [.int .u64 0] 8 := ⟨⟨Try.t23, _, by kernel_rfl, rfl, rfl, rfl, rfl⟩, Try.isAgg23, Try.sizeOf23, ⟨_, Try.zeroValue23, rfl⟩, ⟨_, Try.typeInfo23, rfl⟩⟩
instance hu23 : HasUnd Try.prog 23 := ⟨_, Try.runUnderlying23⟩
instance it23 : IntTy Try.prog 23 .u64 := ⟨Try.runUnderlying23, Try.underlying23⟩
instance ty24 : Ty Try.prog 24 false 1 [.nilFunc] 8 := ⟨⟨Try.t24, _, by kernel_rfl, rfl, rfl, rfl, rfl⟩, Try.isAgg24, Try.sizeOf24, ⟨_, Try.zeroValue24, rfl⟩, ⟨_, Try.typeInfo24, rfl⟩⟩
instance hu24 : HasUnd Try.prog 24 := ⟨_, Try.runUnderlying24⟩
instance ty25 : Ty Try.prog 25 false 1 [.pointer none] 8 := ⟨⟨Try.t25, _, by kernel_rfl, rfl, rfl, rfl, rfl⟩, Try.isAgg25, Try.sizeOf25, ⟨_, Try.zeroValue25, rfl⟩, ⟨_, Try.typeInfo25, rfl⟩⟩
instance hu25 : HasUnd Try.prog 25 := ⟨_, Try.runUnderlying25⟩
instance pt25 : PtrTy Try.prog 25 86 := ⟨Try.runUnderlying25, Try.underlying25⟩
instance ty26 : Ty Try.prog 26 false 1 [.int .i64 0] 8 := ⟨⟨Try.t26, _, by kernel_rfl, rfl, rfl, rfl, rfl⟩, Try.isAgg26, Try.sizeOf26, ⟨_, Try.zeroValue26, rfl⟩, ⟨_, Try.typeInfo26, rfl⟩⟩
instance hu26 : HasUnd Try.prog 26 := ⟨_, Try.runUnderlying26⟩
instance it26 : IntTy Try.prog 26 .i64 := ⟨Try.runUnderlying26, Try.underlying26⟩
instance hu27 : HasUnd Try.prog 27 := ⟨_, Try.runUnderlying27⟩
instance ty28 : Ty Try.prog 28 false 1 [.nilFunc] 8 := ⟨⟨Try.t28, _, by kernel_rfl, rfl, rfl, rfl, rfl⟩, Try.isAgg28, Try.sizeOf28, ⟨_, Try.zeroValue28, rfl⟩, ⟨_, Try.typeInfo28, rfl⟩⟩
instance hu28 : HasUnd Try.prog 28 := ⟨_, Try.runUnderlying28⟩
instance ty29 : Ty Try.prog 29 false 1 [.pointer none] 8 := ⟨⟨Try.t29, _, by kernel_rfl, rfl, rfl, rfl, rfl⟩, Try.isAgg29, Try.sizeOf29, ⟨_, Try.zeroValue29, rfl⟩, ⟨_, Try.typeInfo29, rfl⟩⟩
instance hu29 : HasUnd Try.prog 29 := ⟨_, Try.runUnderlying29⟩
instance pt29 : PtrTy Try.prog 29 33 := ⟨Try.runUnderlying29, Try.underlying29⟩
instance ty30 : Ty Try.prog 30 false 1 [.slice none 0 0] 24 := ⟨⟨Try.t30, _, by kernel_rfl, rfl, rfl, rfl, rfl⟩, Try.isAgg30, Try.sizeOf30, ⟨_, Try.zeroValue30, rfl⟩, ⟨_, Try.typeInfo30, rfl⟩⟩
instance hu30 : HasUnd Try.prog 30 := ⟨_, Try.runUnderlying30⟩
instance sl30 : SlTy Try.prog 30 118 := ⟨Try.runUnderlying30, Try.underlying30⟩
instance ty31 : Ty Try.prog 31 false 1 [.slice none 0 0] 24 := ⟨⟨Try.t31, _, by kernel_rfl, rfl, rfl, rfl, rfl⟩, Try.isAgg31, Try.sizeOf31, ⟨_, Try.zeroValue31, rfl⟩, ⟨_, Try.typeInfo31, rfl⟩⟩
instance hu31 : HasUnd Try.prog 31 := ⟨_, Try.runUnderlying31⟩
instance sl31 : SlTy Try.prog 31 36 := ⟨Try.runUnderlying31, Try.underlying31⟩
instance ty32 : Ty Try.prog 32 true 4 [.int .i64 0, .slice none 0 0, .slice none 0 0, .int .u64 0] 64 := ⟨⟨Try.t32, _, by kernel_rfl, rfl, rfl, rfl, rfl⟩, Try.isAgg32, Try.sizeOf32, ⟨_, Try.zeroValue32, rfl⟩, ⟨_, Try.typeInfo32, rfl⟩⟩
instance hu32 : HasUnd Try.prog 32 := ⟨_, Try.runUnderlying32⟩
instance ss32 : StTy Try.prog 32 [(0, 1, false), (1, 1, false), (2, 1, false), (3, 1, false)] := ⟨_, Try.runUnderlying32, rfl, fun i off sz ag h => match i, h with
  | 0, h => by simp only [List.getElem?_cons_zero, List.getElem?_cons_succ, Option.some.injEq, Prod.mk.injEq] at h; obtain ⟨rfl, rfl, rfl⟩ := h; exact ⟨_, rfl, rfl, Try.sizeOf3, Try.isAgg3⟩
  | 1, h => by simp only [List.getElem?_cons_zero, List.getElem?_cons_succ, Option.some.injEq, Prod.mk.injEq] at h; obtain ⟨rfl, rfl, rfl⟩ := h; exact ⟨_, rfl, rfl, Try.sizeOf30, Try.isAgg30⟩
  | 2, h => by simp only [List.getElem?_cons_zero, List.getElem?_cons_succ, Option.some.injEq, Prod.mk.injEq] at h; obtain ⟨rfl, rfl, rfl⟩ := h; exact ⟨_, rfl, rfl, Try.sizeOf31, Try.isAgg31⟩
  | 3, h => by simp only [List.getElem?_cons_zero, List.getElem?_cons_succ, Option.some.injEq, Prod.mk.injEq] at h; obtain ⟨rfl, rfl, rfl⟩ := h; exact ⟨_, rfl, rfl, Try.sizeOf23, Try.isAgg23⟩
  | (i + 4), h => by simp at h⟩
instance ty33 : Ty Try.prog 33 true 4 [.int .i64 0, .slice none 0 0, .slice none 0 0, .int .u64 0] 64 := ⟨⟨Try.t33, _, by kernel_rfl, rfl, rfl, rfl, rfl⟩, Try.isAgg33, Try.sizeOf33, ⟨_, Try.zeroValue33, rfl⟩, ⟨_, Try.typeInfo33, rfl⟩⟩
instance hu33 : HasUnd Try.prog 33 := ⟨_, Try.runUnderlying33⟩
instance ss33 : StTy Try.prog 33 [(0, 1, false), (1, 1, false), (2, 1, false), (3, 1, false)] := ⟨_, Try.runUnderlying33, rfl, fun i off sz ag h => match i, h with
  | 0, h => by simp only [List.getElem?_cons_zero, List.getElem?_cons_succ, Option.some.injEq, Prod.mk.injEq] at h; obtain ⟨rfl, rfl, rfl⟩ := h; exact ⟨_, rfl, rfl, Try.sizeOf3, Try.isAgg3⟩
  | 1, h => by simp only [List.getElem?_cons_zero, List.getElem?_cons_succ, Option.some.injEq, Prod.mk.injEq] at h; obtain ⟨rfl, rfl, rfl⟩ := h; exact ⟨_, rfl, rfl, Try.sizeOf30, Try.isAgg30⟩
  | 2, h => by simp only [List.getElem?_cons_zero, List.getElem?_cons_succ, Option.some.injEq, Prod.mk.injEq] at h; obtain ⟨rfl, rfl, rfl⟩ := h; exact ⟨_, rfl, rfl, Try.sizeOf31, Try.isAgg31⟩
  | 3, h => by simp only [List.getElem?_cons_zero, List.getElem?_cons_succ, Option.some.injEq, Prod.mk.injEq] at h; obtain ⟨rfl, rfl, rfl⟩ := h; exact ⟨_, rfl, rfl, Try.sizeOf23, Try.isAgg23⟩
  | (i + 4), h => by simp at h⟩
instance ty34 : Ty Try.prog 34 false 1 [.slice none 0 0] 24 := ⟨⟨Try.t34, _, by kernel_rfl, rfl, rfl, rfl, rfl⟩, Try.isAgg34, Try.sizeOf34, ⟨_, Try.zeroValue34, rfl⟩, ⟨_, Try.typeInfo34, rfl⟩⟩
instance hu34 : HasUnd Try.prog 34 := ⟨_, Try.runUnderlying34⟩
instance sl34 : SlTy Try.prog 34 47 := ⟨Try.runUnderlying34, Try.underlying34⟩
instance ty35 : Ty Try.prog 35 true 3 [.int .u64 0, .int .u64 0, .slice none 0 0] 40 := ⟨⟨Try.t35, _, by kernel_rfl, rfl, rfl, rfl, rfl⟩, Try.isAgg35, Try.sizeOf35, ⟨_, Try.zeroValue35, rfl⟩, ⟨_, Try.typeInfo35, rfl⟩⟩
instance hu35 : HasUnd Try.prog 35 := ⟨_, Try.runUnderlying35⟩
instance ss35 : StTy Try.prog 35 [(0, 1, false), (1, 1, false), (2, 1, false)] := ⟨_, Try.runUnderlying35, rfl, fun i off sz ag h => match i, h with
  | 0, h => by simp only [List.getElem?_cons_zero, List.getElem?_cons_succ, Option.some.injEq, Prod.mk.injEq] at h; obtain ⟨rfl, rfl, rfl⟩ := h; exact ⟨_, rfl, rfl, Try.sizeOf23, Try.isAgg23⟩
  | 1, h => by simp only [List.getElem?_cons_zero, List.getElem?_cons_succ, Option.some.injEq, Prod.mk.injEq] at h; obtain ⟨rfl, rfl, rfl⟩ := h; exact ⟨_, rfl, rfl, Try.sizeOf23, Try.isAgg23⟩
  | 2, h => by simp only [List.getElem?_cons_zero, List.getElem?_cons_succ, Option.some.injEq, Prod.mk.injEq] at h; obtain ⟨rfl, rfl, rfl⟩ := h; exact ⟨_, rfl, rfl, Try.sizeOf34, Try.isAgg34⟩
  | (i + 3), h => by simp at h⟩
instance ty36 : Ty Try.prog 36 true 3 [.int .u64 0, .int .u64 0, .slice none 0 0] 40 := ⟨⟨Try.t36, _, by kernel_rfl, rfl, rfl, rfl, rfl⟩, Try.isAgg36, Try.sizeOf36, ⟨_, Try.zeroValue36, rfl⟩, ⟨_, Try.typeInfo36, rfl⟩⟩
instance hu36 : HasUnd Try.prog 36 := ⟨_, Try.runUnderlying36⟩
instance ss36 : StTy Try.prog 36 [(0, 1, false), (1, 1, false), (2, 1, false)] := ⟨_, Try.runUnderlying36, rfl, fun i off sz ag h => match i, h with
  | 0, h => by simp only [List.getElem?_cons_zero, List.getElem?_cons_succ, Option.some.injEq, Prod.mk.injEq] at h; obtain ⟨rfl, rfl, rfl⟩ := h; exact ⟨_, rfl, rfl, Try.sizeOf23, Try.isAgg23⟩
  | 1, h => by simp only [List.getElem?_cons_zero, List.getElem?_cons_succ, Option.some.injEq, Prod.mk.injEq] at h; obtain ⟨rfl, rfl, rfl⟩ := h; exact ⟨_, rfl, rfl, Try.sizeOf23, Try.isAgg23⟩
  | 2, h => by simp only [List.getElem?_cons_zero, List.getElem?_cons_succ, Option.some.injEq, Prod.mk.injEq] at h; obtain ⟨rfl, rfl, rfl⟩ := h; exact ⟨_, rfl, rfl, Try.sizeOf34, Try.isAgg34⟩
  | (i + 3), h => by simp at h⟩
instance ty37 : Ty Try.prog 37 false 1 [.slice none 0 0] 24 := ⟨⟨Try.t37, _, by kernel_rfl, rfl, rfl, rfl, rfl⟩, Try.isAgg37, Try.sizeOf37, ⟨_, Try.zeroValue37, rfl⟩, ⟨_, Try.typeInfo37, rfl⟩⟩
instance hu37 : HasUnd Try.prog 37 := ⟨_, Try.runUnderlying37⟩
instance sl37 : SlTy Try.prog 37 23 := ⟨Try.runUnderlying37, Try.underlying37⟩
instance ty38 : Ty Try.prog 38 true 8 [.int .u8 0, .int .u64 0, .int .u64 0, .slice none 0 0, .int .u64 0, .int .u64 0, .int .u64 0, .slice none 0 0] 96 := ⟨⟨Try.t38, _, by kernel_rfl, rfl, rfl, rfl, rfl⟩, Try.isAgg38, Try.sizeOf38, ⟨_, Try.zeroValue38, rfl⟩, ⟨_, Try.typeInfo38, rfl⟩⟩
instance hu38 : HasUnd Try.prog 38 := ⟨_, Try.runUnderlying38⟩
instance ss38 : StTy Try.prog 38 [(0, 1, false), (1, 3, true), (4, 1, false), (5, 1, false), (6, 1, false), (7, 1, false)] := ⟨_, Try.runUnderlying38, rfl, fun i off sz ag h => match i, h with
  | 0, h => by simp only [List.getElem?_cons_zero, List.getElem?_cons_succ, Option.some.injEq, Prod.mk.injEq] at h; obtain ⟨rfl, rfl, rfl⟩ := h; exact ⟨_, rfl, rfl, Try.sizeOf5, Try.isAgg5⟩
  | 1, h => by simp only [List.getElem?_cons_zero, List.getElem?_cons_succ, Option.some.injEq, Prod.mk.injEq] at h; obtain ⟨rfl, rfl, rfl⟩ := h; exact ⟨_, rfl, rfl, Try.sizeOf36, Try.isAgg36⟩
  | 2, h => by simp only [List.getElem?_cons_zero, List.getElem?_cons_succ, Option.some.injEq, Prod.mk.injEq] at h; obtain ⟨rfl, rfl, rfl⟩ := h; exact ⟨_, rfl, rfl, Try.sizeOf23, Try.isAgg23⟩
  | 3, h => by simp only [List.getElem?_cons_zero, List.getElem?_cons_succ, Option.some.injEq, Prod.mk.injEq] at h; obtain ⟨rfl, rfl, rfl⟩ := h; exact ⟨_, rfl, rfl, Try.sizeOf23, Try.isAgg23⟩
  | 4, h => by simp only [List.getElem?_cons_zero, List.getElem?_cons_succ, Option.some.injEq, Prod.mk.injEq] at h; obtain ⟨rfl, rfl, rfl⟩ := h; exact ⟨_, rfl, rfl, Try.sizeOf23, Try.isAgg23⟩
  | 5, h => by simp only [List.getElem?_cons_zero, List.getElem?_cons_succ, Option.some.injEq, Prod.mk.injEq] at h; obtain ⟨rfl, rfl, rfl⟩ := h; exact ⟨_, rfl, rfl, Try.sizeOf37, Try.isAgg37⟩
  | (i + 6), h => by simp at h⟩
instance ty39 : Ty Try.prog 39 true 8 [.int .u8 0, .int .u64 0, .int .u64 0, .slice none 0 0, .int .u64 0, .int .u64 0, .int .u64 0, .slice none 0 0] 96 := ⟨⟨Try.t39, _, by kernel_rfl, rfl, rfl, rfl, rfl⟩, Try.isAgg39, Try.sizeOf39, ⟨_, Try.zeroValue39, rfl⟩, ⟨_, Try.typeInfo39, rfl⟩⟩
instance hu39 : HasUnd Try.prog 39 := ⟨_, Try.runUnderlying39⟩
instance ss39 : StTy Try.prog 39 [(0, 1, false), (1, 3, true), (4, 1, false), (5, 1, false), (6, 1, false), (7, 1, false)] := ⟨_, Try.runUnderlying39, rfl, fun i off sz ag h => match i, h with
  | 0, h => by simp only [List.getElem?_cons_zero, List.getElem?_cons_succ, Option.some.injEq, Prod.mk.injEq] at h; obtain ⟨rfl, rfl, rfl⟩ := h; exact ⟨_, rfl, rfl, Try.sizeOf5, Try.isAgg5⟩
  | 1, h => by simp only [List.getElem?_cons_zero, List.getElem?_cons_succ, Option.some.injEq, Prod.mk.injEq] at h; obtain ⟨rfl, rfl, rfl⟩ := h; exact ⟨_, rfl, rfl, Try.sizeOf36, Try.isAgg36⟩
  | 2, h => by simp only [List.getElem?_cons_zero, List.getElem?_cons_succ, Option.some.injEq, Prod.mk.injEq] at h; obtain ⟨rfl, rfl, rfl⟩ := h; exact ⟨_, rfl, rfl, Try.sizeOf23, Try.isAgg23⟩
  | 3, h => by simp only [List.getElem?_cons_zero, List.getElem?_cons_succ, Option.some.injEq, Prod.mk.injEq] at h; obtain ⟨rfl, rfl, rfl⟩ := h; exact ⟨_, rfl, rfl, Try.sizeOf23, Try.isAgg23⟩
  | 4, h => by simp only [List.getElem?_cons_zero, List.getElem?_cons_succ, Option.some.injEq, Prod.mk.injEq] at h; obtain ⟨rfl, rfl, rfl⟩ := h; exact ⟨_, rfl, rfl, Try.sizeOf23, Try.isAgg23⟩
  | 5, h => by simp only [List.getElem?_cons_zero, List.getElem?_cons_succ, Option.some.injEq, Prod.mk.injEq] at h; obtain ⟨rfl, rfl, rfl⟩ := h; exact ⟨_, rfl, rfl, Try.sizeOf37, Try.isAgg37⟩
  | (i + 6), h => by simp at h⟩
instance ty40 : Ty Try.prog 40 false 1 [.nilFunc] 8 := ⟨⟨Try.t40, _, by kernel_rfl, rfl, rfl, rfl, rfl⟩, Try.isAgg40, Try.sizeOf40, ⟨_, Try.zeroValue40, rfl⟩, ⟨_, Try.typeInfo40, rfl⟩⟩
instance hu40 : HasUnd Try.prog 40 := ⟨_, Try.runUnderlying40⟩
instance ty41 : Ty Try.prog 41 false 1 [.map none] 8 := ⟨⟨Try.t41, _, by kernel_rfl, rfl, rfl, rfl, rfl⟩, Try.isAgg41, Try.sizeOf41, ⟨_, Try.zeroValue41, rfl⟩, ⟨_, Try.typeInfo41, rfl⟩⟩
instance hu41 : HasUnd Try.prog 41 := ⟨_, Try.runUnderlying41⟩
instance mt41 : MapTy Try.prog 41 23 4 := ⟨Try.runUnderlying41, Try.underlying41⟩
instance ty42 : Ty Try.prog 42 false 1 [.slice none 0 0] 24 := ⟨⟨Try.t42, _, by kernel_rfl, rfl, rfl, rfl, rfl⟩, Try.isAgg42, Try.sizeOf42, ⟨_, Try.zeroValue42, rfl⟩, ⟨_, Try.typeInfo42, rfl⟩⟩
instance hu42 : HasUnd Try.prog 42 := ⟨_, Try.runUnderlying42⟩
instance sl42 : SlTy Try.prog 42 44 := ⟨Try.runUnderlying42, Try.underlying42⟩
instance ty43 : Ty Try.prog 43 false 1 [.nilFunc] 8 := ⟨⟨Try.t43, _, by kernel_rfl, rfl, rfl, rfl, rfl⟩, Try.isAgg43, Try.sizeOf43, ⟨_, Try.zeroValue43, rfl⟩, ⟨_, Try.typeInfo43, rfl⟩⟩
instance hu43 : HasUnd Try.prog 43 := ⟨_, Try.runUnderlying43⟩
instance ty44 : Ty Try.prog 44 true 3 [.int .u64 0, .int .u64 0, .slice none 0 0] 40 := ⟨⟨Try.t44, _, by kernel_rfl, rfl, rfl, rfl, rfl⟩, Try.isAgg44, Try.sizeOf44, ⟨_, Try.zeroValue44, rfl⟩, ⟨_, Try.typeInfo44, rfl⟩⟩
instance hu44 : HasUnd Try.prog 44 := ⟨_, Try.runUnderlying44⟩
instance ss44 : StTy Try.prog 44 [(0, 1, false), (1, 1, false), (2, 1, false)] := ⟨_, Try.runUnderlying44, rfl, fun i off sz ag h => match i, h with
  | 0, h => by simp only [List.getElem?_cons_zero, List.getElem?_cons_succ, Option.some.injEq, Prod.mk.injEq] at h; obtain ⟨rfl, rfl, rfl⟩ := h; exact ⟨_, rfl, rfl, Try.sizeOf23, Try.isAgg23⟩
  | 1, h => by simp only [List.getElem?_cons_zero, List.getElem?_cons_succ, Option.some.injEq, Prod.mk.injEq] at h; obtain ⟨rfl, rfl, rfl⟩ := h; exact ⟨_, rfl, rfl, Try.sizeOf23, Try.isAgg23⟩
  | 2, h => by simp only [List.getElem?_cons_zero, List.getElem?_cons_succ, Option.some.injEq, Prod.mk.injEq] at h; obtain ⟨rfl, rfl, rfl⟩ := h; exact ⟨_, rfl, rfl, Try.sizeOf34, Try.isAgg34⟩
  | (i + 3), h => by simp at h⟩
instance ty45 : Ty Try.prog 45 false 1 [.slice none 0 0] 24 := ⟨⟨Try.t45, _, by kernel_rfl, rfl, rfl, rfl, rfl⟩, Try.isAgg45, Try.sizeOf45, ⟨_, Try.zeroValue45, rfl⟩, ⟨_, Try.typeInfo45, rfl⟩⟩
instance hu45 : HasUnd Try.prog 45 := ⟨_, Try.runUnderlying45⟩
instance sl45 : SlTy Try.prog 45 21 := ⟨Try.runUnderlying45, Try.underlying45⟩
instance ty46 : Ty Try.prog 46 true 2 [.int .u64 0, .slice none 0 0] 32 := ⟨⟨Try.t46, _, by kernel_rfl, rfl, rfl, rfl, rfl⟩, Try.isAgg46, Try.sizeOf46, ⟨_, Try.zeroValue46, rfl⟩, ⟨_, Try.typeInfo46, rfl⟩⟩
instance hu46 : HasUnd Try.prog 46 := ⟨_, Try.runUnderlying46⟩
instance ss46 : StTy Try.prog 46 [(0, 1, false), (1, 1, false)] := ⟨_, Try.runUnderlying46, rfl, fun i off sz ag h => match i, h with
  | 0, h => by simp only [List.getElem?_cons_zero, List.getElem?_cons_succ, Option.some.injEq, Prod.mk.injEq] at h; obtain ⟨rfl, rfl, rfl⟩ := h; exact ⟨_, rfl, rfl, Try.sizeOf23, Try.isAgg23⟩
  | 1, h => by simp only [List.getElem?_cons_zero, List.getElem?_cons_succ, Option.some.injEq, Prod.mk.injEq] at h; obtain ⟨rfl, rfl, rfl⟩ := h; exact ⟨_, rfl, rfl, Try.sizeOf45, Try.isAgg45⟩
  | (i + 2), h => by simp at h⟩
instance ty47 : Ty Try.prog 47 true 2 [.int .u64 0, .slice none 0 0] 32 := ⟨⟨Try.t47, _, by kernel_rfl, rfl, rfl, rfl, rfl⟩, Try.isAgg47, Try.sizeOf47, ⟨_, Try.zeroValue47, rfl⟩, ⟨_, Try.typeInfo47, rfl⟩⟩
instance hu47 : HasUnd Try.prog 47 := ⟨_, Try.runUnderlying47⟩
instance ss47 : StTy Try.prog 47 [(0, 1, false), (1, 1, false)] := ⟨_, Try.runUnderlying47, rfl, fun i off sz ag h => match i, h with
  | 0, h => by simp only [List.getElem?_cons_zero, List.getElem?_cons_succ, Option.some.injEq, Prod.mk.injEq] at h; obtain ⟨rfl, rfl, rfl⟩ := h; exact ⟨_, rfl, rfl, Try.sizeOf23, Try.isAgg23⟩
  | 1, h => by simp only [List.getElem?_cons_zero, List.getElem?_cons_succ, Option.some.injEq, Prod.mk.injEq] at h; obtain ⟨rfl, rfl, rfl⟩ := h; exact ⟨_, rfl, rfl, Try.sizeOf45, Try.isAgg45⟩
  | (i + 2), h => by simp at h⟩
instance ty48 : Ty Try.prog 48 false 1 [.nilFunc] 8 := ⟨⟨Try.t48, _, by kernel_rfl, rfl, rfl, rfl, rfl⟩, Try.isAgg48, Try.sizeOf48, ⟨_, Try.zeroValue48, rfl⟩, ⟨_, Try.typeInfo48, rfl⟩⟩
instance hu48 : HasUnd Try.prog 48 := ⟨_, Try.runUnderlying48⟩
instance ty49 : Ty Try.prog 49 false 1 [.nilFunc] 8 := ⟨⟨Try.t49, _, by kernel_rfl, rfl, rfl, rfl, rfl⟩, Try.isAgg49, Try.sizeOf49, ⟨_, Try.zeroValue49, rfl⟩, ⟨_, Try.typeInfo49, rfl⟩⟩
instance hu49 : HasUnd Try.prog 49 := ⟨_, Try.runUnderlying49⟩
instance ty50 : Ty Try.prog 50 false 1 [.nilFunc] 8 := ⟨⟨Try.t50, _, by kernel_rfl, rfl, rfl, rfl, rfl⟩, Try.isAgg50, Try.sizeOf50, ⟨_, Try.zeroValue50, rfl⟩, ⟨_, Try.typeInfo50, rfl⟩⟩
instance hu50 : HasUnd Try.prog 50 := ⟨_, Try.runUnderlying50⟩
instance ty51 : Ty Try.prog 51 false 1 [.nilFunc] 8 := ⟨⟨Try.t51, _, by kernel_rfl, rfl, rfl, rfl, rfl⟩, Try.isAgg51, Try.sizeOf51, ⟨_, Try.zeroValue51, rfl⟩, ⟨_, Try.typeInfo51, rfl⟩⟩
instance hu51 : HasUnd Try.prog 51 := ⟨_, Try.runUnderlying51⟩
instance ty52 : Ty Try.prog 52 false 1 [.nilFunc] 8 := ⟨⟨Try.t52, _, by kernel_rfl, rfl, rfl, rfl, rfl⟩, Try.isAgg52, Try.sizeOf52, ⟨_, Try.zeroValue52, rfl⟩, ⟨_, Try.typeInfo52, rfl⟩⟩
instance hu52 : HasUnd Try.prog 52 := ⟨_, Try.runUnderlying52⟩
instance ty53 : Ty Try.prog 53 false 1 [.nilFunc] 8 := ⟨⟨Try.t53, _, by kernel_rfl, rfl, rfl, rfl, rfl⟩, Try.isAgg53, Try.sizeOf53, ⟨_, Try.zeroValue53, rfl⟩, ⟨_, Try.typeInfo53, rfl⟩⟩
instance hu53 : HasUnd Try.prog 53 := ⟨_, Try.runUnderlying53⟩
instance ty54 : Ty Try.prog 54 false 1 [.nilFunc] 8 := ⟨⟨Try.t54, _, by kernel_rfl, rfl, rfl, rfl, rfl⟩, Try.isAgg54, Try.sizeOf54, ⟨_, Try.zeroValue54, rfl⟩, ⟨_, Try.typeInfo54, rfl⟩⟩
instance hu54 : HasUnd Try.prog 54 := ⟨_, Try.runUnderlying54⟩
instance ty55 : Ty Try.prog 55 false 1 [.slice none 0 0] 24 := ⟨⟨Try.t55, _, by kernel_rfl, rfl, rfl, rfl, rfl⟩, Try.isAgg55, Try.sizeOf55, ⟨_, Try.zeroValue55, rfl⟩, ⟨_, Try.typeInfo55, rfl⟩⟩
instance hu55 : HasUnd Try.prog 55 := ⟨_, Try.runUnderlying55⟩
instance sl55 : SlTy Try.prog 55 76 := ⟨Try.runUnderlying55, Try.underlying55⟩
instance ty56 : Ty Try.prog 56 false 1 [.nilFunc] 8 := ⟨⟨Try.t56, _, by kernel_rfl, rfl, rfl, rfl, rfl⟩, Try.isAgg56, Try.sizeOf56, ⟨_, Try.zeroValue56, rfl⟩, ⟨_, Try.typeInfo56, rfl⟩⟩
instance hu56 : HasUnd Try.prog 56 := ⟨_, Try.runUnderlying56⟩
instance hu57 : HasUnd Try.prog 57 := ⟨_, Try.runUnderlying57⟩
instance ty58 : Ty Try.prog 58 false 1 [.nilFunc] 8 := ⟨⟨Try.t58, _, by kernel_rfl, rfl, rfl, rfl, rfl⟩, Try.isAgg58, Try.sizeOf58, ⟨_, Try.zeroValue58, rfl⟩, ⟨_, Try.typeInfo58, rfl⟩⟩
instance hu58 : HasUnd Try.prog 58 := ⟨_, Try.runUnderlying58⟩
instance ty59 : Ty Try.prog 59 false 1 [.nilFunc] 8 := ⟨⟨Try.t59, _, by kernel_rfl, rfl, rfl, rfl, rfl⟩, Try.isAgg59, Try.sizeOf59, ⟨_, Try.zeroValue59, rfl⟩, ⟨_, Try.typeInfo59, rfl⟩⟩
instance hu59 : HasUnd Try.prog 59 := ⟨_, Try.runUnderlying59⟩
instance ty60 : Ty Try.prog 60 false 1 [.nilFunc] 8 := ⟨⟨Try.t60, _, by kernel_rfl, rfl, rfl, rfl, rfl⟩, Try.isAgg60, Try.sizeOf60, ⟨_, Try.zeroValue60, rfl⟩, ⟨_, Try.typeInfo60, rfl⟩⟩
instance hu60 : HasUnd Try.prog 60 := ⟨_, Try.runUnderlying60⟩
instance ty61 : Ty Try.prog 61 false 1 [.nilFunc] 8 := ⟨⟨Try.t61, _, by kernel_rfl, rfl, rfl, rfl, rfl⟩, Try.isAgg61, Try.sizeOf61, ⟨_, Try.zeroValue61, rfl⟩, ⟨_, Try.typeInfo61, rfl⟩⟩
instance hu61 : HasUnd Try.prog 61 := ⟨_, Try.runUnderlying61⟩
instance ty62 : Ty Try.prog 62 false 1 [.slice none 0 0] 24 := ⟨⟨Try.t62, _, by kernel_rfl, rfl, rfl, rfl, rfl⟩, Try.isAgg62, Try.sizeOf62, ⟨_, Try.zeroValue62, rfl⟩, ⟨_, Try.typeInfo62, rfl⟩⟩
instance hu62 : HasUnd Try.prog 62 := ⟨_, Try.runUnderlying62⟩
instance sl62 : SlTy Try.prog 62 45 := ⟨Try.runUnderlying62, Try.underlying62⟩
instance ty63 : Ty Try.prog 63 false 1 [.nilFunc] 8 := ⟨⟨Try.t63, _, by kernel_rfl, rfl, rfl, rfl, rfl⟩, Try.isAgg63, Try.sizeOf63, ⟨_, Try.zeroValue63, rfl⟩, ⟨_, Try.typeInfo63, rfl⟩⟩
instance hu63 : HasUnd Try.prog 63 := ⟨_, Try.runUnderlying63⟩
instance ty64 : Ty Try.prog 64 false 1 [.slice none 0 0] 24 := ⟨⟨Try.t64, _, by kernel_rfl, rfl, rfl, rfl, rfl⟩, Try.isAgg64, Try.sizeOf64, ⟨_, Try.zeroValue64, rfl⟩, ⟨_, Try.typeInfo64, rfl⟩⟩
instance hu64 : HasUnd Try.prog 64 := ⟨_, Try.runUnderlying64⟩
instance sl64 : SlTy Try.prog 64 91 := ⟨Try.runUnderlying64, Try.underlying64⟩
instance ty65 : Ty Try.prog 65 false 1 [.nilFunc] 8 := ⟨⟨Try.t65, _, by kernel_rfl, rfl, rfl, rfl, rfl⟩, Try.isAgg65, Try.sizeOf65, ⟨_, Try.zeroValue65, rfl⟩, ⟨_, Try.typeInfo65, rfl⟩⟩
instance hu65 : HasUnd Try.prog 65 := ⟨_, Try.runUnderlying65⟩
instance ty66 : Ty Try.prog 66 false 1 [.slice none 0 0] 24 := ⟨⟨Try.t66, _, by kernel_rfl, rfl, rfl, rfl, rfl⟩, Try.isAgg66, Try.sizeOf66, ⟨_, Try.zeroValue66, rfl⟩, ⟨_, Try.typeInfo66, rfl⟩⟩
instance hu66 : HasUnd Try.prog 66 := ⟨_, Try.runUnderlying66⟩
instance sl66 : SlTy Try.prog 66 80 := ⟨Try.runUnderlying66, Try.underlying66⟩
instance hu67 : HasUnd Try.prog 67 := ⟨_, Try.runUnderlying67⟩
instance ty68 : Ty Try.prog 68 false 1 [.nilFunc] 8 := ⟨⟨Try.t68, _, by kernel_rfl, rfl, rfl, rfl, rfl⟩, Try.isAgg68, Try.sizeOf68, ⟨_, Try.zeroValue68, rfl⟩, ⟨_, Try.typeInfo68, rfl⟩⟩
instance hu68 : HasUnd Try.prog 68 := ⟨_, Try.runUnderlying68⟩
instance hu69 : HasUnd Try.prog 69 := ⟨_, Try.runUnderlying69⟩
instance ty70 : Ty Try.prog 70 false 1 [.nilFunc] 8 := ⟨⟨Try.t70, _, by kernel_rfl, rfl, rfl, rfl, rfl⟩, Try.isAgg70, Try.sizeOf70, ⟨_, Try.zeroValue70, rfl⟩, ⟨_, Try.typeInfo70, rfl⟩⟩
instance hu70 : HasUnd Try.prog 70 := ⟨_, Try.runUnderlying70⟩
instance ty71 : Ty Try.prog 71 false 1 [.nilFunc] 8 := ⟨⟨Try.t71, _, by kernel_rfl, rfl, rfl, rfl, rfl⟩, Try.isAgg71, Try.sizeOf71, ⟨_, Try.zeroValue71, rfl⟩, ⟨_, Try.typeInfo71, rfl⟩⟩
instance hu71 : HasUnd Try.prog 71 := ⟨_, Try.runUnderlying71⟩
instance ty72 : Ty Try.prog 72 false 1 [.nilFunc] 8 := ⟨⟨Try.t72, _, by kernel_rfl, rfl, rfl, rfl, rfl⟩, Try.isAgg72, Try.sizeOf72, ⟨_, Try.zeroValue72, rfl⟩, ⟨_, Try.typeInfo72, rfl⟩⟩
instance hu72 : HasUnd Try.prog 72 := ⟨_, Try.runUnderlying72⟩
instance ty73 : Ty Try.prog 73 false 1 [.nilFunc] 8 := ⟨⟨Try.t73, _, by kernel_rfl, rfl, rfl, rfl, rfl⟩, Try.isAgg73, Try.sizeOf73, ⟨_, Try.zeroValue73, rfl⟩, ⟨_, Try.typeInfo73, rfl⟩⟩
instance hu73 : HasUnd Try.prog 73 := ⟨_, Try.runUnderlying73⟩
instance ty74 : Ty Try.prog 74 false 1 [.slice none 0 0] 24 := ⟨⟨Try.t74, _, by kernel_rfl, rfl, rfl, rfl, rfl⟩, Try.isAgg74, Try.sizeOf74, ⟨_, Try.zeroValue74, rfl⟩, ⟨_, Try.typeInfo74, rfl⟩⟩
instance hu74 : HasUnd Try.prog 74 := ⟨_, Try.runUnderlying74⟩
instance sl74 : SlTy Try.prog 74 78 := ⟨Try.runUnderlying74, Try.underlying74⟩
instance ty75 : Ty Try.prog 75 true 2 [.int .u64 0, .slice none 0 0] 32 := ⟨⟨Try.t75, _, by kernel_rfl, rfl, rfl, rfl, rfl⟩, Try.isAgg75, Try.sizeOf75, ⟨_, Try.zeroValue75, rfl⟩, ⟨_, Try.typeInfo75, rfl⟩⟩
instance hu75 : HasUnd Try.prog 75 := ⟨_, Try.runUnderlying75⟩
instance ss75 : StTy Try.prog 75 [(0, 1, false), (1, 1, false)] := ⟨_, Try.runUnderlying75, rfl, fun i off sz ag h => match i, h with
  | 0, h => by simp only [List.getElem?_cons_zero, List.getElem?_cons_succ, Option.some.injEq, Prod.mk.injEq] at h; obtain ⟨rfl, rfl, rfl⟩ := h; exact ⟨_, rfl, rfl, Try.sizeOf23, Try.isAgg23⟩
  | 1, h => by simp only [List.getElem?_cons_zero, List.getElem?_cons_succ, Option.some.injEq, Prod.mk.injEq] at h; obtain ⟨rfl, rfl, rfl⟩ := h; exact ⟨_, rfl, rfl, Try.sizeOf74, Try.isAgg74⟩
  | (i + 2), h => by simp at h⟩
instance ty76 : Ty Try.prog 76 true 2 [.int .u64 0, .slice none 0 0] 32 := ⟨⟨Try.t76, _, by kernel_rfl, rfl, rfl, rfl, rfl⟩, Try.isAgg76, Try.sizeOf76, ⟨_, Try.zeroValue76, rfl⟩, ⟨_, Try.typeInfo76, rfl⟩⟩
instance hu76 : HasUnd Try.prog 76 := ⟨_, Try.runUnderlying76⟩
instance ss76 : StTy Try.prog 76 [(0, 1, false), (1, 1, false)] := ⟨_, Try.runUnderlying76, rfl, fun i off sz ag h => match i, h with
  | 0, h => by simp only [List.getElem?_cons_zero, List.getElem?_cons_succ, Option.some.injEq, Prod.mk.injEq] at h; obtain ⟨rfl, rfl, rfl⟩ := h; exact ⟨_, rfl, rfl, Try.sizeOf23, Try.isAgg23⟩
  | 1, h => by simp only [List.getElem?_cons_zero, List.getElem?_cons_succ, Option.some.injEq, Prod.mk.injEq] at h; obtain ⟨rfl, rfl, rfl⟩ := h; exact ⟨_, rfl, rfl, Try.sizeOf74, Try.isAgg74⟩
  | (i + 2), h => by simp at h⟩
instance ty77 : Ty Try.prog 77 true 2 [.int .u64 0, .slice none 0 0] 32 := ⟨⟨Try.t77, _, by kernel_rfl, rfl, rfl, rfl, rfl⟩, Try.isAgg77, Try.sizeOf77, ⟨_, Try.zeroValue77, rfl⟩, ⟨_, Try.typeInfo77, rfl⟩⟩
instance hu77 : HasUnd Try.prog 77 := ⟨_, Try.runUnderlying77⟩
instance ss77 : StTy Try.prog 77 [(0, 1, false), (1, 1, false)] := ⟨_, Try.runUnderlying77, rfl, fun i off sz ag h => match i, h with
  | 0, h => by simp only [List.getElem?_cons_zero, List.getElem?_cons_succ, Option.some.injEq, Prod.mk.injEq] at h; obtain ⟨rfl, rfl, rfl⟩ := h; exact ⟨_, rfl, rfl, Try.sizeOf23, Try.isAgg23⟩
  | 1, h => by simp only [List.getElem?_cons_zero, List.getElem?_cons_succ, Option.some.injEq, Prod.mk.injEq] at h; obtain ⟨rfl, rfl, rfl⟩ := h; exact ⟨_, rfl, rfl, Try.sizeOf45, Try.isAgg45⟩
  | (i + 2), h => by simp at h⟩
instance ty78 : Ty Try.prog 78 true 2 [.int .u64 0, .slice none 0 0] 32 := ⟨⟨Try.t78, _, by kernel_rfl, rfl, rfl, rfl, rfl⟩, Try.isAgg78, Try.sizeOf78, ⟨_, Try.zeroValue78, rfl⟩, ⟨_, Try.typeInfo78, rfl⟩⟩
instance hu78 : HasUnd Try.prog 78 := ⟨_, Try.runUnderlying78⟩
instance ss78 : StTy Try.prog 78 [(0, 1, false), (1, 1, false)] := ⟨_, Try.runUnderlying78, rfl, fun i off sz ag h => match i, h with
  | 0, h => by simp only [List.getElem?_cons_zero, List.getElem?_cons_succ, Option.some.injEq, Prod.mk.injEq] at h; obtain ⟨rfl, rfl, rfl⟩ := h; exact ⟨_, rfl, rfl, Try.sizeOf23, Try.isAgg23⟩
  | 1, h => by simp only [List.getElem?_cons_zero, List.getElem?_cons_succ, Option.some.injEq, Prod.mk.injEq] at h; obtain ⟨rfl, rfl, rfl⟩ := h; exact ⟨_, rfl, rfl, Try.sizeOf45, Try.isAgg45⟩
  | (i + 2), h => by simp at h⟩
instance ty79 : Ty Try.prog 79 true 3 [.int .u64 0, .int .u64 0, .slice none 0 0] 40 := ⟨⟨Try.t79, _, by kernel_rfl, rfl, rfl, rfl, rfl⟩, Try.isAgg79, Try.sizeOf79, ⟨_, Try.zeroValue79, rfl⟩, ⟨_, Try.typeInfo79, rfl⟩⟩
instance hu79 : HasUnd Try.prog 79 := ⟨_, Try.runUnderlying79⟩
instance ss79 : StTy Try.prog 79 [(0, 1, false), (1, 1, false), (2, 1, false)] := ⟨_, Try.runUnderlying79, rfl, fun i off sz ag h => match i, h with
  | 0, h => by simp only [List.getElem?_cons_zero, List.getElem?_cons_succ, Option.some.injEq, Prod.mk.injEq] at h; obtain ⟨rfl, rfl, rfl⟩ := h; exact ⟨_, rfl, rfl, Try.sizeOf23, Try.isAgg23⟩
  | 1, h => by simp only [List.getElem?_cons_zero, List.getElem?_cons_succ, Option.some.injEq, Prod.mk.injEq] at h; obtain ⟨rfl, rfl, rfl⟩ := h; exact ⟨_, rfl, rfl, Try.sizeOf23, Try.isAgg23⟩
  | 2, h => by simp only [List.getElem?_cons_zero, List.getElem?_cons_succ, Option.some.injEq, Prod.mk.injEq] at h; obtain ⟨rfl, rfl, rfl⟩ := h; exact ⟨_, rfl, rfl, Try.sizeOf45, Try.isAgg45⟩
  | (i + 3), h => by simp at h⟩
instance ty80 : Ty Try.prog 80 true 3 [.int .u64 0, .int .u64 0, .slice none 0 0] 40 := ⟨⟨Try.t80, _, by kernel_rfl, rfl, rfl, rfl, rfl⟩, Try.isAgg80, Try.sizeOf80, ⟨_, Try.zeroValue80, rfl⟩, ⟨_, Try.typeInfo80, rfl⟩⟩
instance hu80 : HasUnd Try.prog 80 := ⟨_, Try.runUnderlying80⟩
instance ss80 : StTy Try.prog 80 [(0, 1, false), (1, 1, false), (2, 1, false)] := ⟨_, Try.runUnderlying80, rfl, fun i off sz ag h => match i, h with
  | 0, h => by simp only [List.getElem?_cons_zero, List.getElem?_cons_succ, Option.some.injEq, Prod.mk.injEq] at h; obtain ⟨rfl, rfl, rfl⟩ := h; exact ⟨_, rfl, rfl, Try.sizeOf23, Try.isAgg23⟩
  | 1, h => by simp only [List.getElem?_cons_zero, List.getElem?_cons_succ, Option.some.injEq, Prod.mk.injEq] at h; obtain ⟨rfl, rfl, rfl⟩ := h; exact ⟨_, rfl, rfl, Try.sizeOf23, Try.isAgg23⟩
  | 2, h => by simp only [List.getElem?_cons_zero, List.getElem?_cons_succ, Option.some.injEq, Prod.mk.injEq] at h; obtain ⟨rfl, rfl, rfl⟩ := h; exact ⟨_, rfl, rfl, Try.sizeOf45, Try.isAgg45⟩
  | (i + 3), h => by simp at h⟩
instance ty81 : Ty Try.prog 81 false 1 [.nilFunc] 8 := ⟨⟨Try.t81, _, by kernel_rfl, rfl, rfl, rfl, rfl⟩, Try.isAgg81, Try.sizeOf81, ⟨_, Try.zeroValue81, rfl⟩, ⟨_, Try.typeInfo81, rfl⟩⟩
instance hu81 : HasUnd Try.prog 81 := ⟨_, Try.runUnderlying81⟩
instance ty82 : Ty Try.prog 82 false 1 [.nilFunc] 8 := ⟨⟨Try.t82, _, by kernel_rfl, rfl, rfl, rfl, rfl⟩, Try.isAgg82, Try.sizeOf82, ⟨_, Try.zeroValue82, rfl⟩, ⟨_, Try.typeInfo82, rfl⟩⟩
instance hu82 : HasUnd Try.prog 82 := ⟨_, Try.runUnderlying82⟩
instance ty83 : Ty Try.prog 83 false 1 [.map none] 8 := ⟨⟨Try.t83, _, by kernel_rfl, rfl, rfl, rfl, rfl⟩, Try.isAgg83, Try.sizeOf83, ⟨_, Try.zeroValue83, rfl⟩, ⟨_, Try.typeInfo83, rfl⟩⟩
instance hu83 : HasUnd Try.prog 83 := ⟨_, Try.runUnderlying83⟩
instance mt83 : MapTy Try.prog 83 23 104 := ⟨Try.runUnderlying83, Try.underlying83⟩
instance ty84 : Ty Try.prog 84 false 1 [.map none] 8 := ⟨⟨Try.t84, _, by kernel_rfl, rfl, rfl, rfl, rfl⟩, Try.isAgg84, Try.sizeOf84, ⟨_, Try.zeroValue84, rfl⟩, ⟨_, Try.typeInfo84, rfl⟩⟩
instance hu84 : HasUnd Try.prog 84 := ⟨_, Try.runUnderlying84⟩
instance mt84 : MapTy Try.prog 84 23 44 := ⟨Try.runUnderlying84, Try.underlying84⟩
instance ty85 : Ty Try.prog 85 true 4 [.int .i64 0, .map none, .map none, .int .u64 0] 32 := ⟨⟨Try.t85, _, by kernel_rfl, rfl, rfl, rfl, rfl⟩, Try.isAgg85, Try.sizeOf85, ⟨_, Try.zeroValue85, rfl⟩, ⟨_, Try.typeInfo85, rfl⟩⟩
instance hu85 : HasUnd Try.prog 85 := ⟨_, Try.runUnderlying85⟩
instance ss85 : StTy Try.prog 85 [(0, 1, false), (1, 1, false), (2, 1, false), (3, 1, false)] := ⟨_, Try.runUnderlying85, rfl, fun i off sz ag h => match i, h with
  | 0, h => by simp only [List.getElem?_cons_zero, List.getElem?_cons_succ, Option.some.injEq, Prod.mk.injEq] at h; obtain ⟨rfl, rfl, rfl⟩ := h; exact ⟨_, rfl, rfl, Try.sizeOf3, Try.isAgg3⟩
  | 1, h => by simp only [List.getElem?_cons_zero, List.getElem?_cons_succ, Option.some.injEq, Prod.mk.injEq] at h; obtain ⟨rfl, rfl, rfl⟩ := h; exact ⟨_, rfl, rfl, Try.sizeOf83, Try.isAgg83⟩
  | 2, h => by simp only [List.getElem?_cons_zero, List.getElem?_cons_succ, Option.some.injEq, Prod.mk.injEq] at h; obtain ⟨rfl, rfl, rfl⟩ := h; exact ⟨_, rfl, rfl, Try.sizeOf84, Try.isAgg84⟩
  | 3, h => by simp only [List.getElem?_cons_zero, List.getElem?_cons_succ, Option.some.injEq, Prod.mk.injEq] at h; obtain ⟨rfl, rfl, rfl⟩ := h; exact ⟨_, rfl, rfl, Try.sizeOf23, Try.isAgg23⟩
  | (i + 4), h => by simp at h⟩
instance ty86 : Ty Try.prog 86 true 4 [.int .i64 0, .map none, .map none, .int .u64 0] 32 := ⟨⟨Try.t86, _, by kernel_rfl, rfl, rfl, rfl, rfl⟩, Try.isAgg86, Try.sizeOf86, ⟨_, Try.zeroValue86, rfl⟩, ⟨_, Try.typeInfo86, rfl⟩⟩
instance hu86 : HasUnd Try.prog 86 := ⟨_, Try.runUnderlying86⟩
instance ss86 : StTy Try.prog 86 [(0, 1, false), (1, 1, false), (2, 1, false), (3, 1, false)] := ⟨_, Try.runUnderlying86, rfl, fun i off sz ag h => match i, h with
  | 0, h => by simp only [List.getElem?_cons_zero, List.getElem?_cons_succ, Option.some.injEq, Prod.mk.injEq] at h; obtain ⟨rfl, rfl, rfl⟩ := h; exact ⟨_, rfl, rfl, Try.sizeOf3, Try.isAgg3⟩
  | 1, h => by simp only [List.getElem?_cons_zero, List.getElem?_cons_succ, Option.some.injEq, Prod.mk.injEq] at h; obtain ⟨rfl, rfl, rfl⟩ := h; exact ⟨_, rfl, rfl, Try.sizeOf83, Try.isAgg83⟩
  | 2, h => by simp only [List.getElem?_cons_zero, List.getElem?_cons_succ, Option.some.injEq, Prod.mk.injEq] at h; obtain ⟨rfl, rfl, rfl⟩ := h; exact ⟨_, rfl, rfl, Try.sizeOf84, Try.isAgg84⟩
  | 3, h => by simp only [List.getElem?_cons_zero, List.getElem?_cons_succ, Option.some.injEq, Prod.mk.injEq] at h; obtain ⟨rfl, rfl, rfl⟩ := h; exact ⟨_, rfl, rfl, Try.sizeOf23, Try.isAgg23⟩
  | (i + 4), h => by simp at h⟩
instance ty87 : Ty Try.prog 87 false 1 [.nilFunc] 8 := ⟨⟨Try.t87, _, by kernel_rfl, rfl, rfl, rfl, rfl⟩, Try.isAgg87, Try.sizeOf87, ⟨_, Try.zeroValue87, rfl⟩, ⟨_, Try.typeInfo87, rfl⟩⟩
instance hu87 : HasUnd Try.prog 87 := ⟨_, Try.runUnderlying87⟩
instance ty88 : Ty Try.prog 88 false 1 [.slice none 0 0] 24 := ⟨⟨Try.t88, _, by kernel_rfl, rfl, rfl, rfl, rfl⟩, Try.isAgg88, Try.sizeOf88, ⟨_, Try.zeroValue88, rfl⟩, ⟨_, Try.typeInfo88, rfl⟩⟩
instance hu88 : HasUnd Try.prog 88 := ⟨_, Try.runUnderlying88⟩
instance sl88 : SlTy Try.prog 88 92 := ⟨Try.runUnderlying88, Try.underlying88⟩
instance ty89 : Ty Try.prog 89 false 1 [.nilFunc] 8 := ⟨⟨Try.t89, _, by kernel_rfl, rfl, rfl, rfl, rfl⟩, Try.isAgg89, Try.sizeOf89, ⟨_, Try.zeroValue89, rfl⟩, ⟨_, Try.typeInfo89, rfl⟩⟩
instance hu89 : HasUnd Try.prog 89 := ⟨_, Try.runUnderlying89⟩
instance ty90 : Ty Try.prog 90 true 2 [.int .u64 0, .int .u64 0] 16 := ⟨⟨Try.t90, _, by kernel_rfl, rfl, rfl, rfl, rfl⟩, Try.isAgg90, Try.sizeOf90, ⟨_, Try.zeroValue90, rfl⟩, ⟨_, Try.typeInfo90, rfl⟩⟩
instance hu90 : HasUnd Try.prog 90 := ⟨_, Try.runUnderlying90⟩
instance ss90 : StTy Try.prog 90 [(0, 1, false), (1, 1, false)] := ⟨_, Try.runUnderlying90, rfl, fun i off sz ag h => match i, h with
  | 0, h => by simp only [List.getElem?_cons_zero, List.getElem?_cons_succ, Option.some.injEq, Prod.mk.injEq] at h; obtain ⟨rfl, rfl, rfl⟩ := h; exact ⟨_, rfl, rfl, Try.sizeOf23, Try.isAgg23⟩
  | 1, h => by simp only [List.getElem?_cons_zero, List.getElem?_cons_succ, Option.some.injEq, Prod.mk.injEq] at h; obtain ⟨rfl, rfl, rfl⟩ := h; exact ⟨_, rfl, rfl, Try.sizeOf23, Try.isAgg23⟩
  | (i + 2), h => by simp at h⟩
instance ty91 : Ty Try.prog 91 true 2 [.int .u64 0, .int .u64 0] 16 := ⟨⟨Try.t91, _, by kernel_rfl, rfl, rfl, rfl, rfl⟩, Try.isAgg91, Try.sizeOf91, ⟨_, Try.zeroValue91, rfl⟩, ⟨_, Try.typeInfo91, rfl⟩⟩
instance hu91 : HasUnd Try.prog 91 := ⟨_, Try.runUnderlying91⟩
instance ss91 : StTy Try.prog 91 [(0, 1, false), (1, 1, false)] := ⟨_, Try.runUnderlying91, rfl, fun i off sz ag h => match i, h with
  | 0, h => by simp only [List.getElem?_cons_zero, List.getElem?_cons_succ, Option.some.injEq, Prod.mk.injEq] at h; obtain ⟨rfl, rfl, rfl⟩ := h; exact ⟨_, rfl, rfl, Try.sizeOf23, Try.isAgg23⟩
  | 1, h => by simp only [List.getElem?_cons_zero, List.getElem?_cons_succ, Option.some.injEq, Prod.mk.injEq] at h; obtain ⟨rfl, rfl, rfl⟩ := h; exact ⟨_, rfl, rfl, Try.sizeOf23, Try.isAgg23⟩
  | (i + 2), h => by simp at h⟩
instance ty92 : Ty Try.prog 92 true 2 [.int .u64 0, .int .u64 0] 16 := ⟨⟨Try.t92, _, by kernel_rfl, rfl, rfl, rfl, rfl⟩, Try.isAgg92, Try.sizeOf92, ⟨_, Try.zeroValue92, rfl⟩, ⟨_, Try.typeInfo92, rfl⟩⟩
instance hu92 : HasUnd Try.prog 92 := ⟨_, Try.runUnderlying92⟩
instance at92 : ArrTy Try.prog 92 2 23 := ⟨Try.runUnderlying92, Try.underlying92⟩
instance ty93 : Ty Try.prog 93 false 1 [.nilFunc] 8 := ⟨⟨Try.t93, _, by kernel_rfl, rfl, rfl, rfl, rfl⟩, Try.isAgg93, Try.sizeOf93, ⟨_, Try.zeroValue93, rfl⟩, ⟨_, Try.typeInfo93, rfl⟩⟩
instance hu93 : HasUnd Try.prog 93 := ⟨_, Try.runUnderlying93⟩
instance ty94 : Ty Try.prog 94 false 1 [.nilFunc] 8 := ⟨⟨Try.t94, _, by kernel_rfl, rfl, rfl, rfl, rfl⟩, Try.isAgg94, Try.sizeOf94, ⟨_, Try.zeroValue94, rfl⟩, ⟨_, Try.typeInfo94, rfl⟩⟩
instance hu94 : HasUnd Try.prog 94 := ⟨_, Try.runUnderlying94⟩
instance ty95 : Ty Try.prog 95 false 1 [.nilFunc] 8 := ⟨⟨Try.t95, _, by kernel_rfl, rfl, rfl, rfl, rfl⟩, Try.isAgg95, Try.sizeOf95, ⟨_, Try.zeroValue95, rfl⟩, ⟨_, Try.typeInfo95, rfl⟩⟩
instance hu95 : HasUnd Try.prog 95 := ⟨_, Try.runUnderlying95⟩
instance ty96 : Ty Try.prog 96 false 1 [.nilFunc] 8 := ⟨⟨Try.t96, _, by kernel_rfl, rfl, rfl, rfl, rfl⟩, Try.isAgg96, Try.sizeOf96, ⟨_, Try.zeroValue96, rfl⟩, ⟨_, Try.typeInfo96, rfl⟩⟩
instance hu96 : HasUnd Try.prog 96 := ⟨_, Try.runUnderlying96⟩
instance ty97 : Ty Try.prog 97 false 1 [.nilFunc] 8 := ⟨⟨Try.t97, _, by kernel_rfl, rfl, rfl, rfl, rfl⟩, Try.isAgg97, Try.sizeOf97, ⟨_, Try.zeroValue97, rfl⟩, ⟨_, Try.typeInfo97, rfl⟩⟩
instance hu97 : HasUnd Try.prog 97 := ⟨_, Try.runUnderlying97⟩
instance ty98 : Ty Try.prog 98 false 1 [.nilFunc] 8 := ⟨⟨Try.t98, _, by kernel_rfl, rfl, rfl, rfl, rfl⟩, Try.isAgg98, Try.sizeOf98, ⟨_, Try.zeroValue98, rfl⟩, ⟨_, Try.typeInfo98, rfl⟩⟩
instance hu98 : HasUnd Try.prog 98 := ⟨_, Try.runUnderlying98⟩
instance ty99 : Ty Try.prog 99 false 1 [.nilFunc] 8 := ⟨⟨Try.t99, _, by kernel_rfl, rfl, rfl, rfl, rfl⟩, Try.isAgg99, Try.sizeOf99, ⟨_, Try.zeroValue99, rfl⟩, ⟨_, Try.typeInfo99, rfl⟩⟩
instance hu99 : HasUnd Try.prog 99 := ⟨_, Try.runUnderlying99⟩
instance ty100 : Ty Try.prog 100 false 1 [.nilFunc] 8 := ⟨⟨Try.t100, _, by kernel_rfl, rfl, rfl, rfl, rfl⟩, Try.isAgg100, Try.sizeOf100, ⟨_, Try.zeroValue100, rfl⟩, ⟨_, Try.typeInfo100, rfl⟩⟩
instance hu100 : HasUnd Try.prog 100 := ⟨_, Try.runUnderlying100⟩
instance hu101 : HasUnd Try.prog 101 := ⟨_, Try.runUnderlying101⟩
instance ty102 : Ty Try.prog 102 false 1 [.nilFunc] 8 := ⟨⟨Try.t102, _, by kernel_rfl, rfl, rfl, rfl, rfl⟩, Try.isAgg102, Try.sizeOf102, ⟨_, Try.zeroValue102, rfl⟩, ⟨_, Try.typeInfo102, rfl⟩⟩
instance hu102 : HasUnd Try.prog 102 := ⟨_, Try.runUnderlying102⟩
instance ty103 : Ty Try.prog 103 false 1 [.nilFunc] 8 := ⟨⟨Try.t103, _, by kernel_rfl, rfl, rfl, rfl, rfl⟩, Try.isAgg103, Try.sizeOf103, ⟨_, Try.zeroValue103, rfl⟩, ⟨_, Try.typeInfo103, rfl⟩⟩
instance hu103 : HasUnd Try.prog 103 := ⟨_, Try.runUnderlying103⟩
instance ty104 : Ty Try.prog 104 false 1 [.pointer none] 8 := ⟨⟨Try.t104, _, by kernel_rfl, rfl, rfl, rfl, rfl⟩, Try.isAgg104, Try.sizeOf104, ⟨_, Try.zeroValue104, rfl⟩, ⟨_, Try.typeInfo104, rfl⟩⟩
instance hu104 : HasUnd Try.prog 104 := ⟨_, Try.runUnderlying104⟩
instance pt104 : PtrTy Try.prog 104 142 := ⟨Try.runUnderlying104, Try.underlying104⟩
instance hu105 : HasUnd Try.prog 105 := ⟨_, Try.runUnderlying105⟩
instance ty106 : Ty Try.prog 106 false 1 [.nilFunc] 8 := ⟨⟨Try.t106, _, by kernel_rfl, rfl, rfl, rfl, rfl⟩, Try.isAgg106, Try.sizeOf106, ⟨_, Try.zeroValue106, rfl⟩, ⟨_, Try.typeInfo106, rfl⟩⟩
instance hu106 : HasUnd Try.prog 106 := ⟨_, Try.runUnderlying106⟩
instance ty107 : Ty Try.prog 107 false 1 [.nilFunc] 8 := ⟨⟨Try.t107, _, by kernel_rfl, rfl, rfl, rfl, rfl⟩, Try.isAgg107, Try.sizeOf107, ⟨_, Try.zeroValue107, rfl⟩, ⟨_, Try.typeInfo107, rfl⟩⟩
instance hu107 : HasUnd Try.prog 107 := ⟨_, Try.runUnderlying107⟩
instance ty108 : Ty Try.prog 108 false 1 [.nilFunc] 8 := ⟨⟨Try.t108, _, by kernel_rfl, rfl, rfl, rfl, rfl⟩, Try.isAgg108, Try.sizeOf108, ⟨_, Try.zeroValue108, rfl⟩, ⟨_, Try.typeInfo108, rfl⟩⟩
instance hu108 : HasUnd Try.prog 108 := ⟨_, Try.runUnderlying108⟩
instance ty109 : Ty Try.prog 109 false 1 [.nilFunc] 8 := ⟨⟨Try.t109, _, by kernel_rfl, rfl, rfl, rfl, rfl⟩, Try.isAgg109, Try.sizeOf109, ⟨_, Try.zeroValue109, rfl⟩, ⟨_, Try.typeInfo109, rfl⟩⟩
instance hu109 : HasUnd Try.prog 109 := ⟨_, Try.runUnderlying109⟩
instance ty110 : Ty Try.prog 110 false 1 [.nilFunc] 8 := ⟨⟨Try.t110, _, by kernel_rfl, rfl, rfl, rfl, rfl⟩, Try.isAgg110, Try.sizeOf110, ⟨_, Try.zeroValue110, rfl⟩, ⟨_, Try.typeInfo110, rfl⟩⟩
instance hu110 : HasUnd Try.prog 110 := ⟨_, Try.runUnderlying110⟩
instance hu111 : HasUnd Try.prog 111 := ⟨_, Try.runUnderlying111⟩
instance ty112 : Ty Try.prog 112 false 1 [.nilFunc] 8 := ⟨⟨Try.t112, _, by kernel_rfl, rfl, rfl, rfl, rfl⟩, Try.isAgg112, Try.sizeOf112, ⟨_, Try.zeroValue112, rfl⟩, ⟨_, Try.typeInfo112, rfl⟩⟩
instance hu112 : HasUnd Try.prog 112 := ⟨_, Try.runUnderlying112⟩
instance ty113 : Ty Try.prog 113 false 1 [.nilFunc] 8 := ⟨⟨Try.t113, _, by kernel_rfl, rfl, rfl, rfl, rfl⟩, Try.isAgg113, Try.sizeOf113, ⟨_, Try.zeroValue113, rfl⟩, ⟨_, Try.typeInfo113, rfl⟩⟩
instance hu113 : HasUnd Try.prog 113 := ⟨_, Try.runUnderlying113⟩
instance ty114 : Ty Try.prog 114 false 1 [.nilFunc] 8 := ⟨⟨Try.t114, _, by kernel_rfl, rfl, rfl, rfl, rfl⟩, Try.isAgg114, Try.sizeOf114, ⟨_, Try.zeroValue114, rfl⟩, ⟨_, Try.typeInfo114, rfl⟩⟩
instance hu114 : HasUnd Try.prog 114 := ⟨_, Try.runUnderlying114⟩
instance ty115 : Ty Try.prog 115 false 1 [.nilFunc] 8 := ⟨⟨Try.t115, _, by kernel_rfl, rfl, rfl, rfl, rfl⟩, Try.isAgg115, Try.sizeOf115, ⟨_, Try.zeroValue115, rfl⟩, ⟨_, Try.typeInfo115, rfl⟩⟩
instance hu115 : HasUnd Try.prog 115 := ⟨_, Try.runUnderlying115⟩
instance ty116 : Ty Try.prog 116 false 1 [.slice none 0 0] 24 := ⟨⟨Try.t116, _, by kernel_rfl, rfl, rfl, rfl, rfl⟩, Try.isAgg116, Try.sizeOf116, ⟨_, Try.zeroValue116, rfl⟩, ⟨_, Try.typeInfo116, rfl⟩⟩
instance hu116 : HasUnd Try.prog 116 := ⟨_, Try.runUnderlying116⟩
instance sl116 : SlTy Try.prog 116 133 := ⟨Try.runUnderlying116, Try.underlying116⟩
instance ty117 : Ty Try.prog 117 true 2 [.int .u64 0, .slice none 0 0] 32 := ⟨⟨Try.t117, _, by kernel_rfl, rfl, rfl, rfl, rfl⟩, Try.isAgg117, Try.sizeOf117, ⟨_, Try.zeroValue117, rfl⟩, ⟨_, Try.typeInfo117, rfl⟩⟩
instance hu117 : HasUnd Try.prog 117 := ⟨_, Try.runUnderlying117⟩
instance ss117 : StTy Try.prog 117 [(0, 1, false), (1, 1, false)] := ⟨_, Try.runUnderlying117, rfl, fun i off sz ag h => match i, h with
  | 0, h => by simp only [List.getElem?_cons_zero, List.getElem?_cons_succ, Option.some.injEq, Prod.mk.injEq] at h; obtain ⟨rfl, rfl, rfl⟩ := h; exact ⟨_, rfl, rfl, Try.sizeOf23, Try.isAgg23⟩
  | 1, h => by simp only [List.getElem?_cons_zero, List.getElem?_cons_succ, Option.some.injEq, Prod.mk.injEq] at h; obtain ⟨rfl, rfl, rfl⟩ := h; exact ⟨_, rfl, rfl, Try.sizeOf116, Try.isAgg116⟩
  | (i + 2), h => by simp at h⟩
instance ty118 : Ty Try.prog 118 true 2 [.int .u64 0, .slice none 0 0] 32 := ⟨⟨Try.t118, _, by kernel_rfl, rfl, rfl, rfl, rfl⟩, Try.isAgg118, Try.sizeOf118, ⟨_, Try.zeroValue118, rfl⟩, ⟨_, Try.typeInfo118, rfl⟩⟩
instance hu118 : HasUnd Try.prog 118 := ⟨_, Try.runUnderlying118⟩
instance ss118 : StTy Try.prog 118 [(0, 1, false), (1, 1, false)] := ⟨_, Try.runUnderlying118, rfl, fun i off sz ag h => match i, h with
  | 0, h => by simp only [List.getElem?_cons_zero, List.getElem?_cons_succ, Option.some.injEq, Prod.mk.injEq] at h; obtain ⟨rfl, rfl, rfl⟩ := h; exact ⟨_, rfl, rfl, Try.sizeOf23, Try.isAgg23⟩
  | 1, h => by simp only [List.getElem?_cons_zero, List.getElem?_cons_succ, Option.some.injEq, Prod.mk.injEq] at h; obtain ⟨rfl, rfl, rfl⟩ := h; exact ⟨_, rfl, rfl, Try.sizeOf116, Try.isAgg116⟩
  | (i + 2), h => by simp at h⟩
instance ty119 : Ty Try.prog 119 false 1 [.nilFunc] 8 := ⟨⟨Try.t119, _, by kernel_rfl, rfl, rfl, rfl, rfl⟩, Try.isAgg119, Try.sizeOf119, ⟨_, Try.zeroValue119, rfl⟩, ⟨_, Try.typeInfo119, rfl⟩⟩
instance hu119 : HasUnd Try.prog 119 := ⟨_, Try.runUnderlying119⟩
instance hu120 : HasUnd Try.prog 120 := ⟨_, Try.runUnderlying120⟩
instance ty121 : Ty Try.prog 121 false 1 [.nilFunc] 8 := ⟨⟨Try.t121, _, by kernel_rfl, rfl, rfl, rfl, rfl⟩, Try.isAgg121, Try.sizeOf121, ⟨_, Try.zeroValue121, rfl⟩, ⟨_, Try.typeInfo121, rfl⟩⟩
instance hu121 : HasUnd Try.prog 121 := ⟨_, Try.runUnderlying121⟩
instance ty122 : Ty Try.prog 122 false 1 [.nilFunc] 8 := ⟨⟨Try.t122, _, by kernel_rfl, rfl, rfl, rfl, rfl⟩, Try.isAgg122, Try.sizeOf122, ⟨_, Try.zeroValue122, rfl⟩, ⟨_, Try.typeInfo122, rfl⟩⟩
instance hu122 : HasUnd Try.prog 122 := ⟨_, Try.runUnderlying122⟩
instance ty123 : Ty Try.prog 123 false 1 [.nilFunc] 8 := ⟨⟨Try.t123, _, by kernel_rfl, rfl, rfl, rfl, rfl⟩, Try.isAgg123, Try.sizeOf123, ⟨_, Try.zeroValue123, rfl⟩, ⟨_, Try.typeInfo123, rfl⟩⟩
instance hu123 : HasUnd Try.prog 123 := ⟨_, Try.runUnderlying123⟩
instance ty124 : Ty Try.prog 124 false 1 [.nilFunc] 8 := ⟨⟨Try.t124, _, by kernel_rfl, rfl, rfl, rfl, rfl⟩, Try.isAgg124, Try.sizeOf124, ⟨_, Try.zeroValue124, rfl⟩, ⟨_, Try.typeInfo124, rfl⟩⟩
instance hu124 : HasUnd Try.prog 124 := ⟨_, Try.runUnderlying124⟩
instance ty125 : Ty Try.prog 125 false 1 [.nilFunc] 8 := ⟨⟨Try.t125, _, by kernel_rfl, rfl, rfl, rfl, rfl⟩, Try.isAgg125, Try.sizeOf125, ⟨_, Try.zeroValue125, rfl⟩, ⟨_, Try.typeInfo125, rfl⟩⟩
instance hu125 : HasUnd Try.prog 125 := ⟨_, Try.runUnderlying125⟩
instance ty126 : Ty Try.prog 126 false 1 [.nilFunc] 8 := ⟨⟨Try.t126, _, by kernel_rfl, rfl, rfl, rfl, rfl⟩, Try.isAgg126, Try.sizeOf126, ⟨_, Try.zeroValue126, rfl⟩, ⟨_, Try.typeInfo126, rfl⟩⟩
instance hu126 : HasUnd Try.prog 126 := ⟨_, Try.runUnderlying126⟩
instance ty127 : Ty Try.prog 127 false 1 [.nilFunc] 8 := ⟨⟨Try.t127, _, by kernel_rfl, rfl, rfl, rfl, rfl⟩, Try.isAgg127, Try.sizeOf127, ⟨_, Try.zeroValue127, rfl⟩, ⟨_, Try.typeInfo127, rfl⟩⟩
instance hu127 : HasUnd Try.prog 127 := ⟨_, Try.runUnderlying127⟩
instance ty128 : Ty Try.prog 128 false 1 [.nilFunc] 8 := ⟨⟨Try.t128, _, by kernel_rfl, rfl, rfl, rfl, rfl⟩, Try.isAgg128, Try.sizeOf128, ⟨_, Try.zeroValue128, rfl⟩, ⟨_, Try.typeInfo128, rfl⟩⟩
instance hu128 : HasUnd Try.prog 128 := ⟨_, Try.runUnderlying128⟩
instance ty129 : Ty Try.prog 129 false 1 [.nilFunc] 8 := ⟨⟨Try.t129, _, by kernel_rfl, rfl, rfl, rfl, rfl⟩, Try.isAgg129, Try.sizeOf129, ⟨_, Try.zeroValue129, rfl⟩, ⟨_, Try.typeInfo129, rfl⟩⟩
instance hu129 : HasUnd Try.prog 129 := ⟨_, Try.runUnderlying129⟩
instance ty130 : Ty Try.prog 130 false 1 [.nilFunc] 8 := ⟨⟨Try.t130, _, by kernel_rfl, rfl, rfl, rfl, rfl⟩, Try.isAgg130, Try.sizeOf130, ⟨_, Try.zeroValue130, rfl⟩, ⟨_, Try.typeInfo130, rfl⟩⟩
instance hu130 : HasUnd Try.prog 130 := ⟨_, Try.runUnderlying130⟩
instance hu131 : HasUnd Try.prog 131 := ⟨_, Try.runUnderlying131⟩
instance ty132 : Ty Try.prog 132 false 1 [.nilFunc] 8 := ⟨⟨Try.t132, _, by kernel_rfl, rfl, rfl, rfl, rfl⟩, Try.isAgg132, Try.sizeOf132, ⟨_, Try.zeroValue132, rfl⟩, ⟨_, Try.typeInfo132, rfl⟩⟩
instance hu132 : HasUnd Try.prog 132 := ⟨_, Try.runUnderlying132⟩
instance ty133 : Ty Try.prog 133 true 2 [.int .u64 0, .slice none 0 0] 32 := ⟨⟨Try.t133, _, by kernel_rfl, rfl, rfl, rfl, rfl⟩, Try.isAgg133, Try.sizeOf133, ⟨_, Try.zeroValue133, rfl⟩, ⟨_, Try.typeInfo133, rfl⟩⟩
instance hu133 : HasUnd Try.prog 133 := ⟨_, Try.runUnderlying133⟩
instance ss133 : StTy Try.prog 133 [(0, 1, false), (1, 1, false)] := ⟨_, Try.runUnderlying133, rfl, fun i off sz ag h => match i, h with
  | 0, h => by simp only [List.getElem?_cons_zero, List.getElem?_cons_succ, Option.some.injEq, Prod.mk.injEq] at h; obtain ⟨rfl, rfl, rfl⟩ := h; exact ⟨_, rfl, rfl, Try.sizeOf23, Try.isAgg23⟩
  | 1, h => by simp only [List.getElem?_cons_zero, List.getElem?_cons_succ, Option.some.injEq, Prod.mk.injEq] at h; obtain ⟨rfl, rfl, rfl⟩ := h; exact ⟨_, rfl, rfl, Try.sizeOf45, Try.isAgg45⟩
  | (i + 2), h => by simp at h⟩
instance ty134 : Ty Try.prog 134 false 1 [.nilFunc] 8 := ⟨⟨Try.t134, _, by kernel_rfl, rfl, rfl, rfl, rfl⟩, Try.isAgg134, Try.sizeOf134, ⟨_, Try.zeroValue134, rfl⟩, ⟨_, Try.typeInfo134, rfl⟩⟩
instance hu134 : HasUnd Try.prog 134 := ⟨_, Try.runUnderlying134⟩
instance hu135 : HasUnd Try.prog 135 := ⟨_, Try.runUnderlying135⟩
instance ty136 : Ty Try.prog 136 false 1 [.nilFunc] 8 := ⟨⟨Try.t136, _, by kernel_rfl, rfl, rfl, rfl, rfl⟩, Try.isAgg136, Try.sizeOf136, ⟨_, Try.zeroValue136, rfl⟩, ⟨_, Try.typeInfo136, rfl⟩⟩
instance hu136 : HasUnd Try.prog 136 := ⟨_, Try.runUnderlying136⟩
instance ty137 : Ty Try.prog 137 false 1 [.nilFunc] 8 := ⟨⟨Try.t137, _, by kernel_rfl, rfl, rfl, rfl, rfl⟩, Try.isAgg137, Try.sizeOf137, ⟨_, Try.zeroValue137, rfl⟩, ⟨_, Try.typeInfo137, rfl⟩⟩
instance hu137 : HasUnd Try.prog 137 := ⟨_, Try.runUnderlying137⟩
instance ty138 : Ty Try.prog 138 false 1 [.nilFunc] 8 := ⟨⟨Try.t138, _, by kernel_rfl, rfl, rfl, rfl, rfl⟩, Try.isAgg138, Try.sizeOf138, ⟨_, Try.zeroValue138, rfl⟩, ⟨_, Try.typeInfo138, rfl⟩⟩
instance hu138 : HasUnd Try.prog 138 := ⟨_, Try.runUnderlying138⟩
instance ty139 : Ty Try.prog 139 false 1 [.nilFunc] 8 := ⟨⟨Try.t139, _, by kernel_rfl, rfl, rfl, rfl, rfl⟩, Try.isAgg139, Try.sizeOf139, ⟨_, Try.zeroValue139, rfl⟩, ⟨_, Try.typeInfo139, rfl⟩⟩
instance hu139 : HasUnd Try.prog 139 := ⟨_, Try.runUnderlying139⟩
instance ty140 : Ty Try.prog 140 false 1 [.nilFunc] 8 := ⟨⟨Try.t140, _, by kernel_rfl, rfl, rfl, rfl, rfl⟩, Try.isAgg140, Try.sizeOf140, ⟨_, Try.zeroValue140, rfl⟩, ⟨_, Try.typeInfo140, rfl⟩⟩
instance hu140 : HasUnd Try.prog 140 := ⟨_, Try.runUnderlying140⟩
instance ty141 : Ty Try.prog 141 true 1 [.slice none 0 0] 24 := ⟨⟨Try.t141, _, by kernel_rfl, rfl, rfl, rfl, rfl⟩, Try.isAgg141, Try.sizeOf141, ⟨_, Try.zeroValue141, rfl⟩, ⟨_, Try.typeInfo141, rfl⟩⟩
instance hu141 : HasUnd Try.prog 141 := ⟨_, Try.runUnderlying141⟩
instance ss141 : StTy Try.prog 141 [(0, 1, false)] := ⟨_, Try.runUnderlying141, rfl, fun i off sz ag h => match i, h with
  | 0, h => by simp only [List.getElem?_cons_zero, List.getElem?_cons_succ, Option.some.injEq, Prod.mk.injEq] at h; obtain ⟨rfl, rfl, rfl⟩ := h; exact ⟨_, rfl, rfl, Try.sizeOf74, Try.isAgg74⟩
  | (i + 1), h => by simp at h⟩
instance ty142 : Ty Try.prog 142 true 1 [.slice none 0 0] 24 := ⟨⟨Try.t142, _, by kernel_rfl, rfl, rfl, rfl, rfl⟩, Try.isAgg142, Try.sizeOf142, ⟨_, Try.zeroValue142, rfl⟩, ⟨_, Try.typeInfo142, rfl⟩⟩
instance hu142 : HasUnd Try.prog 142 := ⟨_, Try.runUnderlying142⟩
instance ss142 : StTy Try.prog 142 [(0, 1, false)] := ⟨_, Try.runUnderlying142, rfl, fun i off sz ag h => match i, h with
  | 0, h => by simp only [List.getElem?_cons_zero, List.getElem?_cons_succ, Option.some.injEq, Prod.mk.injEq] at h; obtain ⟨rfl, rfl, rfl⟩ := h; exact ⟨_, rfl, rfl, Try.sizeOf74, Try.isAgg74⟩
  | (i + 1), h => by simp at h⟩
instance ty143 : Ty Try.prog 143 false 1 [.nilFunc] 8 := ⟨⟨Try.t143, _, by kernel_rfl, rfl, rfl, rfl, rfl⟩, Try.isAgg143, Try.sizeOf143, ⟨_, Try.zeroValue143, rfl⟩, ⟨_, Try.typeInfo143, rfl⟩⟩
instance hu143 : HasUnd Try.prog 143 := ⟨_, Try.runUnderlying143⟩
instance ty144 : Ty Try.prog 144 false 1 [.nilFunc] 8 := ⟨⟨Try.t144, _, by kernel_rfl, rfl, rfl, rfl, rfl⟩, Try.isAgg144, Try.sizeOf144, ⟨_, Try.zeroValue144, rfl⟩, ⟨_, Try.typeInfo144, rfl⟩⟩
instance hu144 : HasUnd Try.prog 144 := ⟨_, Try.runUnderlying144⟩
instance ty145 : Ty Try.prog 145 false 1 [.nilFunc] 8 := ⟨⟨Try.t145, _, by kernel_rfl, rfl, rfl, rfl, rfl⟩, Try.isAgg145, Try.sizeOf145, ⟨_, Try.zeroValue145, rfl⟩, ⟨_, Try.typeInfo145, rfl⟩⟩
instance hu145 : HasUnd Try.prog 145 := ⟨_, Try.runUnderlying145⟩
instance ty146 : Ty Try.prog 146 false 1 [.nilFunc] 8 := ⟨⟨Try.t146, _, by kernel_rfl, rfl, rfl, rfl, rfl⟩, Try.isAgg146, Try.sizeOf146, ⟨_, Try.zeroValue146, rfl⟩, ⟨_, Try.typeInfo146, rfl⟩⟩
instance hu146 : HasUnd Try.prog 146 := ⟨_, Try.runUnderlying146⟩
instance ty147 : Ty Try.prog 147 false 1 [.nilFunc] 8 := ⟨⟨Try.t147, _, by kernel_rfl, rfl, rfl, rfl, rfl⟩, Try.isAgg147, Try.sizeOf147, ⟨_, Try.zeroValue147, rfl⟩, ⟨_, Try.typeInfo147, rfl⟩⟩
instance hu147 : HasUnd Try.prog 147 := ⟨_, Try.runUnderlying147⟩
instance ty148 : Ty Try.prog 148 false 1 [.nilFunc] 8 := ⟨⟨Try.t148, _, by kernel_rfl, rfl, rfl, rfl, rfl⟩, Try.isAgg148, Try.sizeOf148, ⟨_, Try.zeroValue148, rfl⟩, ⟨_, Try.typeInfo148, rfl⟩⟩
instance hu148 : HasUnd Try.prog 148 := ⟨_, Try.runUnderlying148⟩
instance ty149 : Ty Try.prog 149 false 1 [.nilFunc] 8 := ⟨⟨Try.t149, _, by kernel_rfl, rfl, rfl, rfl, rfl⟩, Try.isAgg149, Try.sizeOf149, ⟨_, Try.zeroValue149, rfl⟩, ⟨_, Try.typeInfo149, rfl⟩⟩
instance hu149 : HasUnd Try.prog 149 := ⟨_, Try.runUnderlying149⟩
instance ty150 : Ty Try.prog 150 false 1 [.nilFunc] 8 := ⟨⟨Try.t150, _, by kernel_rfl, rfl, rfl, rfl, rfl⟩, Try.isAgg150, Try.sizeOf150, ⟨_, Try.zeroValue150, rfl⟩, ⟨_, Try.typeInfo150, rfl⟩⟩
instance hu150 : HasUnd Try.prog 150 := ⟨_, Try.runUnderlying150⟩
instance ty151 : Ty Try.prog 151 false 1 [.nilFunc] 8 := ⟨⟨Try.t151, _, by kernel_rfl, rfl, rfl, rfl, rfl⟩, Try.isAgg151, Try.sizeOf151, ⟨_, Try.zeroValue151, rfl⟩, ⟨_, Try.typeInfo151, rfl⟩⟩
instance hu151 : HasUnd Try.prog 151 := ⟨_, Try.runUnderlying151⟩
instance ty152 : Ty Try.prog 152 false 1 [.nilFunc] 8 := ⟨⟨Try.t152, _, by kernel_rfl, rfl, rfl, rfl, rfl⟩, Try.isAgg152, Try.sizeOf152, ⟨_, Try.zeroValue152, rfl⟩, ⟨_, Try.typeInfo152, rfl⟩⟩
instance hu152 : HasUnd Try.prog 152 := ⟨_, Try.runUnderlying152⟩
instance ty153 : Ty Try.prog 153 false 1 [.nilFunc] 8 := ⟨⟨Try.t153, _, by kernel_rfl, rfl, rfl, rfl, rfl⟩, Try.isAgg153, Try.sizeOf153, ⟨_, Try.zeroValue153, rfl⟩, ⟨_, Try.typeInfo153, rfl⟩⟩
instance hu153 : HasUnd Try.prog 153 := ⟨_, Try.runUnderlying153⟩
instance ty154 : Ty Try.prog 154 false 1 [.int .u64 0] 8 := ⟨⟨Try.t154, _, by kernel_rfl, rfl, rfl, rfl, rfl⟩, Try.isAgg154, Try.sizeOf154, ⟨_, Try.zeroValue154, rfl⟩, ⟨_, Try.typeInfo154, rfl⟩⟩
instance hu154 : HasUnd Try.prog 154 := ⟨_, Try.runUnderlying154⟩
instance it154 : IntTy Try.prog 154 .u64 := ⟨Try.runUnderlying154, Try.underlying154⟩
instance ty155 : Ty Try.prog 155 false 1 [.nilFunc] 8 := ⟨⟨Try.t155, _, by kernel_rfl, rfl, rfl, rfl, rfl⟩, Try.isAgg155, Try.sizeOf155, ⟨_, Try.zeroValue155, rfl⟩, ⟨_, Try.typeInfo155, rfl⟩⟩
instance hu155 : HasUnd Try.prog 155 := ⟨_, Try.runUnderlying155⟩
instance ty156 : Ty Try.prog 156 false 1 [.nilFunc] 8 := ⟨⟨Try.t156, _, by kernel_rfl, rfl, rfl, rfl, rfl⟩, Try.isAgg156, Try.sizeOf156, ⟨_, Try.zeroValue156, rfl⟩, ⟨_, Try.typeInfo156, rfl⟩⟩
instance hu156 : HasUnd Try.prog 156 := ⟨_, Try.runUnderlying156⟩
instance ty157 : Ty Try.prog 157 false 1 [.nilFunc] 8 := ⟨⟨Try.t157, _, by kernel_rfl, rfl, rfl, rfl, rfl⟩, Try.isAgg157, Try.sizeOf157, ⟨_, Try.zeroValue157, rfl⟩, ⟨_, Try.typeInfo157, rfl⟩⟩
instance hu157 : HasUnd Try.prog 157 := ⟨_, Try.runUnderlying157⟩
instance ty158 : Ty Try.prog 158 false 1 [.nilFunc] 8 := ⟨⟨Try.t158, _, by kernel_rfl, rfl, rfl, rfl, rfl⟩, Try.isAgg158, Try.sizeOf158, ⟨_, Try.zeroValue158, rfl⟩, ⟨_, Try.typeInfo158, rfl⟩⟩
instance hu158 : HasUnd Try.prog 158 := ⟨_, Try.runUnderlying158⟩
instance ty159 : Ty Try.prog 159 false 1 [.nilFunc] 8 := ⟨⟨Try.t159, _, by kernel_rfl, rfl, rfl, rfl, rfl⟩, Try.isAgg159, Try.sizeOf159, ⟨_, Try.zeroValue159, rfl⟩, ⟨_, Try.typeInfo159, rfl⟩⟩
instance hu159 : HasUnd Try.prog 159 := ⟨_, Try.runUnderlying159⟩
instance ty160 : Ty Try.prog 160 false 1 [.nilFunc] 8 := ⟨⟨Try.t160, _, by kernel_rfl, rfl, rfl, rfl, rfl⟩, Try.isAgg160, Try.sizeOf160, ⟨_, Try.zeroValue160, rfl⟩, ⟨_, Try.typeInfo160, rfl⟩⟩
instance hu160 : HasUnd Try.prog 160 := ⟨_, Try.runUnderlying160⟩
instance ty161 : Ty Try.prog 161 false 1 [.int .i64 0] 8 := ⟨⟨Try.t161, _, by kernel_rfl, rfl, rfl, rfl, rfl⟩, Try.isAgg161, Try.sizeOf161, ⟨_, Try.zeroValue161, rfl⟩, ⟨_, Try.typeInfo161, rfl⟩⟩
instance hu161 : HasUnd Try.prog 161 := ⟨_, Try.runUnderlying161⟩
instance it161 : IntTy Try.prog 161 .i64 := ⟨Try.runUnderlying161, Try.underlying161⟩
instance hu162 : HasUnd Try.prog 162 := ⟨_, Try.runUnderlying162⟩
instance ty163 : Ty Try.prog 163 false 1 [.nilFunc] 8 := ⟨⟨Try.t163, _, by kernel_rfl, rfl, rfl, rfl, rfl⟩, Try.isAgg163, Try.sizeOf163, ⟨_, Try.zeroValue163, rfl⟩, ⟨_, Try.typeInfo163, rfl⟩⟩
instance hu163 : HasUnd Try.prog 163 := ⟨_, Try.runUnderlying163⟩
instance ty164 : Ty Try.prog 164 false 1 [.nilFunc] 8 := ⟨⟨Try.t164, _, by kernel_rfl, rfl, rfl, rfl, rfl⟩, Try.isAgg164, Try.sizeOf164, ⟨_, Try.zeroValue164, rfl⟩, ⟨_, Try.typeInfo164, rfl⟩⟩
instance hu164 : HasUnd Try.prog 164 := ⟨_, Try.runUnderlying164⟩
instance ty165 : Ty Try.prog 165 false 1 [.nilFunc] 8 := ⟨⟨Try.t165, _, by kernel_rfl, rfl, rfl, rfl, rfl⟩, Try.isAgg165, Try.sizeOf165, ⟨_, Try.zeroValue165, rfl⟩, ⟨_, Try.typeInfo165, rfl⟩⟩
instance hu165 : HasUnd Try.prog 165 := ⟨_, Try.runUnderlying165⟩
instance ty166 : Ty Try.prog 166 false 1 [.nilFunc] 8 := ⟨⟨Try.t166, _, by kernel_rfl, rfl, rfl, rfl, rfl⟩, Try.isAgg166, Try.sizeOf166, ⟨_, Try.zeroValue166, rfl⟩, ⟨_, Try.typeInfo166, rfl⟩⟩
instance hu166 : HasUnd Try.prog 166 := ⟨_, Try.runUnderlying166⟩
instance hu167 : HasUnd Try.prog 167 := ⟨_, Try.runUnderlying167⟩
instance ty168 : Ty Try.prog 168 false 1 [.nilFunc] 8 := ⟨⟨Try.t168, _, by kernel_rfl, rfl, rfl, rfl, rfl⟩, Try.isAgg168, Try.sizeOf168, ⟨_, Try.zeroValue168, rfl⟩, ⟨_, Try.typeInfo168, rfl⟩⟩
instance hu168 : HasUnd Try.prog 168 := ⟨_, Try.runUnderlying168⟩
instance ty169 : Ty Try.prog 169 false 1 [.nilFunc] 8 := ⟨⟨Try.t169, _, by kernel_rfl, rfl, rfl, rfl, rfl⟩, Try.isAgg169, Try.sizeOf169, ⟨_, Try.zeroValue169, rfl⟩, ⟨_, Try.typeInfo169, rfl⟩⟩
instance hu169 : HasUnd Try.prog 169 := ⟨_, Try.runUnderlying169⟩
instance ty170 : Ty Try.prog 170 false 1 [.int .u32 0] 4 := ⟨⟨Try.t170, _, by kernel_rfl, rfl, rfl, rfl, rfl⟩, Try.isAgg170, Try.sizeOf170, ⟨_, Try.zeroValue170, rfl⟩, ⟨_, Try.typeInfo170, rfl⟩⟩
instance hu170 : HasUnd Try.prog 170 := ⟨_, Try.runUnderlying170⟩
instance it170 : IntTy Try.prog 170 .u32 := ⟨Try.runUnderlying170, Try.underlying170⟩
instance ty171 : Ty Try.prog 171 false 1 [.nilFunc] 8 := ⟨⟨Try.t171, _, by kernel_rfl, rfl, rfl, rfl, rfl⟩, Try.isAgg171, Try.sizeOf171, ⟨_, Try.zeroValue171, rfl⟩, ⟨_, Try.typeInfo171, rfl⟩⟩
instance hu171 : HasUnd Try.prog 171 := ⟨_, Try.runUnderlying171⟩
instance ty172 : Ty Try.prog 172 false 1 [.int .u64 0] 8 := ⟨⟨Try.t172, _, by kernel_rfl, rfl, rfl, rfl, rfl⟩, Try.isAgg172, Try.sizeOf172, ⟨_, Try.zeroValue172, rfl⟩, ⟨_, Try.typeInfo172, rfl⟩⟩
instance hu172 : HasUnd Try.prog 172 := ⟨_, Try.runUnderlying172⟩
instance it172 : IntTy Try.prog 172 .u64 := ⟨Try.runUnderlying172, Try.underlying172⟩
instance ty173 : Ty Try.prog 173 false 1 [.nilFunc] 8 := ⟨⟨Try.t173, _, by kernel_rfl, rfl, rfl, rfl, rfl⟩, Try.isAgg173, Try.sizeOf173, ⟨_, Try.zeroValue173, rfl⟩, ⟨_, Try.typeInfo173, rfl⟩⟩
instance hu173 : HasUnd Try.prog 173 := ⟨_, Try.runUnderlying173⟩
instance ty174 : Ty Try.prog 174 false 1 [.nilFunc] 8 := ⟨⟨Try.t174, _, by kernel_rfl, rfl, rfl, rfl, rfl⟩, Try.isAgg174, Try.sizeOf174, ⟨_, Try.zeroValue174, rfl⟩, ⟨_, Try.typeInfo174, rfl⟩⟩
instance hu174 : HasUnd Try.prog 174 := ⟨_, Try.runUnderlying174⟩
instance ty175 : Ty Try.prog 175 false 1 [.pointer none] 8 := ⟨⟨Try.t175, _, by kernel_rfl, rfl, rfl, rfl, rfl⟩, Try.isAgg175, Try.sizeOf175, ⟨_, Try.zeroValue175, rfl⟩, ⟨_, Try.typeInfo175, rfl⟩⟩
instance hu175 : HasUnd Try.prog 175 := ⟨_, Try.runUnderlying175⟩
instance pt175 : PtrTy Try.prog 175 3 := ⟨Try.runUnderlying175, Try.underlying175⟩
instance ty176 : Ty Try.prog 176 false 1 [.nilFunc] 8 := ⟨⟨Try.t176, _, by kernel_rfl, rfl, rfl, rfl, rfl⟩, Try.isAgg176, Try.sizeOf176, ⟨_, Try.zeroValue176, rfl⟩, ⟨_, Try.typeInfo176, rfl⟩⟩
instance hu176 : HasUnd Try.prog 176 := ⟨_, Try.runUnderlying176⟩
instance ty177 : Ty Try.prog 177 false 1 [.pointer none] 8 := ⟨⟨Try.t177, _, by kernel_rfl, rfl, rfl, rfl, rfl⟩, Try.isAgg177, Try.sizeOf177, ⟨_, Try.zeroValue177, rfl⟩, ⟨_, Try.typeInfo177, rfl⟩⟩
instance hu177 : HasUnd Try.prog 177 := ⟨_, Try.runUnderlying177⟩
instance pt177 : PtrTy Try.prog 177 172 := ⟨Try.runUnderlying177, Try.underlying177⟩
instance hu178 : HasUnd Try.prog 178 := ⟨_, Try.runUnderlying178⟩
instance ty179 : Ty Try.prog 179 false 1 [.nilFunc] 8 := ⟨⟨Try.t179, _, by kernel_rfl, rfl, rfl, rfl, rfl⟩, Try.isAgg179, Try.sizeOf179, ⟨_, Try.zeroValue179, rfl⟩, ⟨_, Try.typeInfo179, rfl⟩⟩
instance hu179 : HasUnd Try.prog 179 := ⟨_, Try.runUnderlying179⟩
instance ty180 : Ty Try.prog 180 false 1 [.nilFunc] 8 := ⟨⟨Try.t180, _, by kernel_rfl, rfl, rfl, rfl, rfl⟩, Try.isAgg180, Try.sizeOf180, ⟨_, Try.zeroValue180, rfl⟩, ⟨_, Try.typeInfo180, rfl⟩⟩
instance hu180 : HasUnd Try.prog 180 := ⟨_, Try.runUnderlying180⟩
instance ty181 : Ty Try.prog 181 true 4 [.pointer none, .pointer none, .pointer none, .string ⟨#[]⟩] 40 := ⟨⟨Try.t181, _, by kernel_rfl, rfl, rfl, rfl, rfl⟩, Try.isAgg181, Try.sizeOf181, ⟨_, Try.zeroValue181, rfl⟩, ⟨_, Try.typeInfo181, rfl⟩⟩
instance hu181 : HasUnd Try.prog 181 := ⟨_, Try.runUnderlying181⟩
instance ss181 : StTy Try.prog 181 [(0, 1, false), (1, 1, false), (2, 1, false), (3, 1, false)] := ⟨_, Try.runUnderlying181, rfl, fun i off sz ag h => match i, h with
  | 0, h => by simp only [List.getElem?_cons_zero, List.getElem?_cons_succ, Option.some.injEq, Prod.mk.injEq] at h; obtain ⟨rfl, rfl, rfl⟩ := h; exact ⟨_, rfl, rfl, Try.sizeOf17, Try.isAgg17⟩
  | 1, h => by simp only [List.getElem?_cons_zero, List.getElem?_cons_succ, Option.some.injEq, Prod.mk.injEq] at h; obtain ⟨rfl, rfl, rfl⟩ := h; exact ⟨_, rfl, rfl, Try.sizeOf17, Try.isAgg17⟩
  | 2, h => by simp only [List.getElem?_cons_zero, List.getElem?_cons_succ, Option.some.injEq, Prod.mk.injEq] at h; obtain ⟨rfl, rfl, rfl⟩ := h; exact ⟨_, rfl, rfl, Try.sizeOf17, Try.isAgg17⟩
  | 3, h => by simp only [List.getElem?_cons_zero, List.getElem?_cons_succ, Option.some.injEq, Prod.mk.injEq] at h; obtain ⟨rfl, rfl, rfl⟩ := h; exact ⟨_, rfl, rfl, Try.sizeOf9, Try.isAgg9⟩
  | (i + 4), h => by simp at h⟩
instance ty182 : Ty Try.prog 182 true 4 [.pointer none, .pointer none, .pointer none, .string ⟨#[]⟩] 40 := ⟨⟨Try.t182, _, by kernel_rfl, rfl, rfl, rfl, rfl⟩, Try.isAgg182, Try.sizeOf182, ⟨_, Try.zeroValue182, rfl⟩, ⟨_, Try.typeInfo182, rfl⟩⟩
instance hu182 : HasUnd Try.prog 182 := ⟨_, Try.runUnderlying182⟩
instance ss182 : StTy Try.prog 182 [(0, 1, false), (1, 1, false), (2, 1, false), (3, 1, false)] := ⟨_, Try.runUnderlying182, rfl, fun i off sz ag h => match i, h with
  | 0, h => by simp only [List.getElem?_cons_zero, List.getElem?_cons_succ, Option.some.injEq, Prod.mk.injEq] at h; obtain ⟨rfl, rfl, rfl⟩ := h; exact ⟨_, rfl, rfl, Try.sizeOf17, Try.isAgg17⟩
  | 1, h => by simp only [List.getElem?_cons_zero, List.getElem?_cons_succ, Option.some.injEq, Prod.mk.injEq] at h; obtain ⟨rfl, rfl, rfl⟩ := h; exact ⟨_, rfl, rfl, Try.sizeOf17, Try.isAgg17⟩
  | 2, h => by simp only [List.getElem?_cons_zero, List.getElem?_cons_succ, Option.some.injEq, Prod.mk.injEq] at h; obtain ⟨rfl, rfl, rfl⟩ := h; exact ⟨_, rfl, rfl, Try.sizeOf17, Try.isAgg17⟩
  | 3, h => by simp only [List.getElem?_cons_zero, List.getElem?_cons_succ, Option.some.injEq, Prod.mk.injEq] at h; obtain ⟨rfl, rfl, rfl⟩ := h; exact ⟨_, rfl, rfl, Try.sizeOf9, Try.isAgg9⟩
  | (i + 4), h => by simp at h⟩
instance ty183 : Ty Try.prog 183 true 0 [] 0 := ⟨⟨Try.t183, _, by kernel_rfl, rfl, rfl, rfl, rfl⟩, Try.isAgg183, Try.sizeOf183, ⟨_, Try.zeroValue183, rfl⟩, ⟨_, Try.typeInfo183, rfl⟩⟩
instance hu183 : HasUnd Try.prog 183 := ⟨_, Try.runUnderlying183⟩
instance at183 : ArrTy Try.prog 183 0 16 := ⟨Try.runUnderlying183, Try.underlying183⟩
instance ty184 : Ty Try.prog 184 true 0 [] 0 := ⟨⟨Try.t184, _, by kernel_rfl, rfl, rfl, rfl, rfl⟩, Try.isAgg184, Try.sizeOf184, ⟨_, Try.zeroValue184, rfl⟩, ⟨_, Try.typeInfo184, rfl⟩⟩
instance hu184 : HasUnd Try.prog 184 := ⟨_, Try.runUnderlying184⟩
instance ss184 : StTy Try.prog 184 [(0, 0, true)] := ⟨_, Try.runUnderlying184, rfl, fun i off sz ag h => match i, h with
  | 0, h => by simp only [List.getElem?_cons_zero, List.getElem?_cons_succ, Option.some.injEq, Prod.mk.injEq] at h; obtain ⟨rfl, rfl, rfl⟩ := h; exact ⟨_, rfl, rfl, Try.sizeOf183, Try.isAgg183⟩
  | (i + 1), h => by simp at h⟩
instance ty185 : Ty Try.prog 185 true 0 [] 0 := ⟨⟨Try.t185, _, by kernel_rfl, rfl, rfl, rfl, rfl⟩, Try.isAgg185, Try.sizeOf185, ⟨_, Try.zeroValue185, rfl⟩, ⟨_, Try.typeInfo185, rfl⟩⟩
instance hu185 : HasUnd Try.prog 185 := ⟨_, Try.runUnderlying185⟩
instance ss185 : StTy Try.prog 185 [(0, 0, true)] := ⟨_, Try.runUnderlying185, rfl, fun i off sz ag h => match i, h with
  | 0, h => by simp only [List.getElem?_cons_zero, List.getElem?_cons_succ, Option.some.injEq, Prod.mk.injEq] at h; obtain ⟨rfl, rfl, rfl⟩ := h; exact ⟨_, rfl, rfl, Try.sizeOf183, Try.isAgg183⟩
  | (i + 1), h => by simp at h⟩
instance ty186 : Ty Try.prog 186 false 1 [.int .u8 0] 1 := ⟨⟨Try.t186, _, by kernel_rfl, rfl, rfl, rfl, rfl⟩, Try.isAgg186, Try.sizeOf186, ⟨_, Try.zeroValue186, rfl⟩, ⟨_, Try.typeInfo186, rfl⟩⟩
instance hu186 : HasUnd Try.prog 186 := ⟨_, Try.runUnderlying186⟩
instance it186 : IntTy Try.prog 186 .u8 := ⟨Try.runUnderlying186, Try.underlying186⟩
instance ty187 : Ty Try.prog 187 false 1 [.int .u8 0] 1 := ⟨⟨Try.t187, _, by kernel_rfl, rfl, rfl, rfl, rfl⟩, Try.isAgg187, Try.sizeOf187, ⟨_, Try.zeroValue187, rfl⟩, ⟨_, Try.typeInfo187, rfl⟩⟩
instance hu187 : HasUnd Try.prog 187 := ⟨_, Try.runUnderlying187⟩
instance it187 : IntTy Try.prog 187 .u8 := ⟨Try.runUnderlying187, Try.underlying187⟩
instance ty188 : Ty Try.prog 188 false 1 [.nilFunc] 8 := ⟨⟨Try.t188, _, by kernel_rfl, rfl, rfl, rfl, rfl⟩, Try.isAgg188, Try.sizeOf188, ⟨_, Try.zeroValue188, rfl⟩, ⟨_, Try.typeInfo188, rfl⟩⟩
instance hu188 : HasUnd Try.prog 188 := ⟨_, Try.runUnderlying188⟩
instance ty189 : Ty Try.prog 189 false 1 [.pointer none] 8 := ⟨⟨Try.t189, _, by kernel_rfl, rfl, rfl, rfl, rfl⟩, Try.isAgg189, Try.sizeOf189, ⟨_, Try.zeroValue189, rfl⟩, ⟨_, Try.typeInfo189, rfl⟩⟩
instance hu189 : HasUnd Try.prog 189 := ⟨_, Try.runUnderlying189⟩
instance pt189 : PtrTy Try.prog 189 5 := ⟨Try.runUnderlying189, Try.underlying189⟩
instance ty190 : Ty Try.prog 190 false 1 [.int .i32 0] 4 := ⟨⟨Try.t190, _, by kernel_rfl, rfl, rfl, rfl, rfl⟩, Try.isAgg190, Try.sizeOf190, ⟨_, Try.zeroValue190, rfl⟩, ⟨_, Try.typeInfo190, rfl⟩⟩
instance hu190 : HasUnd Try.prog 190 := ⟨_, Try.runUnderlying190⟩
instance it190 : IntTy Try.prog 190 .i32 := ⟨Try.runUnderlying190, Try.underlying190⟩
instance ty191 : Ty Try.prog 191 false 1 [.int .i32 0] 4 := ⟨⟨Try.t191, _, by kernel_rfl, rfl, rfl, rfl, rfl⟩, Try.isAgg191, Try.sizeOf191, ⟨_, Try.zeroValue191, rfl⟩, ⟨_, Try.typeInfo191, rfl⟩⟩
instance hu191 : HasUnd Try.prog 191 := ⟨_, Try.runUnderlying191⟩
instance it191 : IntTy Try.prog 191 .i32 := ⟨Try.runUnderlying191, Try.underlying191⟩
instance ty192 : Ty Try.prog 192 true 11 [.int .u64 0, .int .u64 0, .int .u32 0, .int .u8 0, .int .u8 0, .int .u8 0, .int .u8 0, .nilFunc, .pointer none, .int .i32 0, .int .i32 0] 48 := ⟨⟨Try.t192, _, by kernel_rfl, rfl, rfl, rfl, rfl⟩, Try.isAgg192, Try.sizeOf192, ⟨_, Try.zeroValue192, rfl⟩, ⟨_, Try.typeInfo192, rfl⟩⟩
instance hu192 : HasUnd Try.prog 192 := ⟨_, Try.runUnderlying192⟩
instance ss192 : StTy Try.prog 192 [(0, 1, false), (1, 1, false), (2, 1, false), (3, 1, false), (4, 1, false), (5, 1, false), (6, 1, false), (7, 1, false), (8, 1, false), (9, 1, false), (10, 1, false)] := ⟨_, Try.runUnderlying192, rfl, fun i off sz ag h => match i, h with
  | 0, h => by simp only [List.getElem?_cons_zero, List.getElem?_cons_succ, Option.some.injEq, Prod.mk.injEq] at h; obtain ⟨rfl, rfl, rfl⟩ := h; exact ⟨_, rfl, rfl, Try.sizeOf12, Try.isAgg12⟩
  | 1, h => by simp only [List.getElem?_cons_zero, List.getElem?_cons_succ, Option.some.injEq, Prod.mk.injEq] at h; obtain ⟨rfl, rfl, rfl⟩ := h; exact ⟨_, rfl, rfl, Try.sizeOf12, Try.isAgg12⟩
  | 2, h => by simp only [List.getElem?_cons_zero, List.getElem?_cons_succ, Option.some.injEq, Prod.mk.injEq] at h; obtain ⟨rfl, rfl, rfl⟩ := h; exact ⟨_, rfl, rfl, Try.sizeOf170, Try.isAgg170⟩
  | 3, h => by simp only [List.getElem?_cons_zero, List.getElem?_cons_succ, Option.some.injEq, Prod.mk.injEq] at h; obtain ⟨rfl, rfl, rfl⟩ := h; exact ⟨_, rfl, rfl, Try.sizeOf186, Try.isAgg186⟩
  | 4, h => by simp only [List.getElem?_cons_zero, List.getElem?_cons_succ, Option.some.injEq, Prod.mk.injEq] at h; obtain ⟨rfl, rfl, rfl⟩ := h; exact ⟨_, rfl, rfl, Try.sizeOf5, Try.isAgg5⟩
  | 5, h => by simp only [List.getElem?_cons_zero, List.getElem?_cons_succ, Option.some.injEq, Prod.mk.injEq] at h; obtain ⟨rfl, rfl, rfl⟩ := h; exact ⟨_, rfl, rfl, Try.sizeOf5, Try.isAgg5⟩
  | 6, h => by simp only [List.getElem?_cons_zero, List.getElem?_cons_succ, Option.some.injEq, Prod.mk.injEq] at h; obtain ⟨rfl, rfl, rfl⟩ := h; exact ⟨_, rfl, rfl, Try.sizeOf187, Try.isAgg187⟩
  | 7, h => by simp only [List.getElem?_cons_zero, List.getElem?_cons_succ, Option.some.injEq, Prod.mk.injEq] at h; obtain ⟨rfl, rfl, rfl⟩ := h; exact ⟨_, rfl, rfl, Try.sizeOf188, Try.isAgg188⟩
  | 8, h => by simp only [List.getElem?_cons_zero, List.getElem?_cons_succ, Option.some.injEq, Prod.mk.injEq] at h; obtain ⟨rfl, rfl, rfl⟩ := h; exact ⟨_, rfl, rfl, Try.sizeOf189, Try.isAgg189⟩
  | 9, h => by simp only [List.getElem?_cons_zero, List.getElem?_cons_succ, Option.some.injEq, Prod.mk.injEq] at h; obtain ⟨rfl, rfl, rfl⟩ := h; exact ⟨_, rfl, rfl, Try.sizeOf190, Try.isAgg190⟩
  | 10, h => by simp only [List.getElem?_cons_zero, List.getElem?_cons_succ, Option.some.injEq, Prod.mk.injEq] at h; obtain ⟨rfl, rfl, rfl⟩ := h; exact ⟨_, rfl, rfl, Try.sizeOf191, Try.isAgg191⟩
  | (i + 11), h => by simp at h⟩
instance ty193 : Ty Try.prog 193 true 11 [.int .u64 0, .int .u64 0, .int .u32 0, .int .u8 0, .int .u8 0, .int .u8 0, .int .u8 0, .nilFunc, .pointer none, .int .i32 0, .int .i32 0] 48 := ⟨⟨Try.t193, _, by kernel_rfl, rfl, rfl, rfl, rfl⟩, Try.isAgg193, Try.sizeOf193, ⟨_, Try.zeroValue193, rfl⟩, ⟨_, Try.typeInfo193, rfl⟩⟩
instance hu193 : HasUnd Try.prog 193 := ⟨_, Try.runUnderlying193⟩
instance ss193 : StTy Try.prog 193 [(0, 1, false), (1, 1, false), (2, 1, false), (3, 1, false), (4, 1, false), (5, 1, false), (6, 1, false), (7, 1, false), (8, 1, false), (9, 1, false), (10, 1, false)] := ⟨_, Try.runUnderlying193, rfl, fun i off sz ag h => match i, h with
  | 0, h => by simp only [List.getElem?_cons_zero, List.getElem?_cons_succ, Option.some.injEq, Prod.mk.injEq] at h; obtain ⟨rfl, rfl, rfl⟩ := h; exact ⟨_, rfl, rfl, Try.sizeOf12, Try.isAgg12⟩
  | 1, h => by simp only [List.getElem?_cons_zero, List.getElem?_cons_succ, Option.some.injEq, Prod.mk.injEq] at h; obtain ⟨rfl, rfl, rfl⟩ := h; exact ⟨_, rfl, rfl, Try.sizeOf12, Try.isAgg12⟩
  | 2, h => by simp only [List.getElem?_cons_zero, List.getElem?_cons_succ, Option.some.injEq, Prod.mk.injEq] at h; obtain ⟨rfl, rfl, rfl⟩ := h; exact ⟨_, rfl, rfl, Try.sizeOf170, Try.isAgg170⟩
  | 3, h => by simp only [List.getElem?_cons_zero, List.getElem?_cons_succ, Option.some.injEq, Prod.mk.injEq] at h; obtain ⟨rfl, rfl, rfl⟩ := h; exact ⟨_, rfl, rfl, Try.sizeOf186, Try.isAgg186⟩
  | 4, h => by simp only [List.getElem?_cons_zero, List.getElem?_cons_succ, Option.some.injEq, Prod.mk.injEq] at h; obtain ⟨rfl, rfl, rfl⟩ := h; exact ⟨_, rfl, rfl, Try.sizeOf5, Try.isAgg5⟩
  | 5, h => by simp only [List.getElem?_cons_zero, List.getElem?_cons_succ, Option.some.injEq, Prod.mk.injEq] at h; obtain ⟨rfl, rfl, rfl⟩ := h; exact ⟨_, rfl, rfl, Try.sizeOf5, Try.isAgg5⟩
  | 6, h => by simp only [List.getElem?_cons_zero, List.getElem?_cons_succ, Option.some.injEq, Prod.mk.injEq] at h; obtain ⟨rfl, rfl, rfl⟩ := h; exact ⟨_, rfl, rfl, Try.sizeOf187, Try.isAgg187⟩
  | 7, h => by simp only [List.getElem?_cons_zero, List.getElem?_cons_succ, Option.some.injEq, Prod.mk.injEq] at h; obtain ⟨rfl, rfl, rfl⟩ := h; exact ⟨_, rfl, rfl, Try.sizeOf188, Try.isAgg188⟩
  | 8, h => by simp only [List.getElem?_cons_zero, List.getElem?_cons_succ, Option.some.injEq, Prod.mk.injEq] at h; obtain ⟨rfl, rfl, rfl⟩ := h; exact ⟨_, rfl, rfl, Try.sizeOf189, Try.isAgg189⟩
  | 9, h => by simp only [List.getElem?_cons_zero, List.getElem?_cons_succ, Option.some.injEq, Prod.mk.injEq] at h; obtain ⟨rfl, rfl, rfl⟩ := h; exact ⟨_, rfl, rfl, Try.sizeOf190, Try.isAgg190⟩
  | 10, h => by simp only [List.getElem?_cons_zero, List.getElem?_cons_succ, Option.some.injEq, Prod.mk.injEq] at h; obtain ⟨rfl, rfl, rfl⟩ := h; exact ⟨_, rfl, rfl, Try.sizeOf191, Try.isAgg191⟩
  | (i + 11), h => by simp at h⟩
instance ty194 : Ty Try.prog 194 false 1 [.pointer none] 8 := ⟨⟨Try.t194, _, by kernel_rfl, rfl, rfl, rfl, rfl⟩, Try.isAgg194, Try.sizeOf194, ⟨_, Try.zeroValue194, rfl⟩, ⟨_, Try.typeInfo194, rfl⟩⟩
instance hu194 : HasUnd Try.prog 194 := ⟨_, Try.runUnderlying194⟩
instance en3 : Enters Try.prog 3 := ⟨Try.call3⟩
instance en4 : Enters Try.prog 4 := ⟨Try.call4⟩
instance en5 : Enters Try.prog 5 := ⟨Try.call5⟩
instance en6 : Enters Try.prog 6 := ⟨Try.call6⟩
instance en7 : Enters Try.prog 7 := ⟨Try.call7⟩
instance en8 : Enters Try.prog 8 := ⟨Try.call8⟩
instance en9 : Enters Try.prog 9 := ⟨Try.call9⟩
instance en10 : Enters Try.prog 10 := ⟨Try.call10⟩
instance en11 : Enters Try.prog 11 := ⟨Try.call11⟩
instance en12 : Enters Try.prog 12 := ⟨Try.call12⟩
instance en13 : Enters Try.prog 13 := ⟨Try.call13⟩
instance en14 : Enters Try.prog 14 := ⟨Try.call14⟩
instance en15 : Enters Try.prog 15 := ⟨Try.call15⟩
instance en16 : Enters Try.prog 16 := ⟨Try.call16⟩
instance en17 : Enters Try.prog 17 := ⟨Try.call17⟩
instance en18 : Enters Try.prog 18 := ⟨Try.call18⟩
instance en19 : Enters Try.prog 19 := ⟨Try.call19⟩
instance en20 : Enters Try.prog 20 := ⟨Try.call20⟩
instance en21 : Enters Try.prog 21 := ⟨Try.call21⟩
instance en22 : Enters Try.prog 22 := ⟨Try.call22⟩
instance en23 : Enters Try.prog 23 := ⟨Try.call23⟩
instance en24 : Enters Try.prog 24 := ⟨Try.call24⟩
instance en25 : Enters Try.prog 25 := ⟨Try.call25⟩
instance en26 : Enters Try.prog 26 := ⟨Try.call26⟩
instance en27 : Enters Try.prog 27 := ⟨Try.call27⟩
instance en28 : Enters Try.prog 28 := ⟨Try.call28⟩
instance en29 : Enters Try.prog 29 := ⟨Try.call29⟩
instance en30 : Enters Try.prog 30 := ⟨Try.call30⟩
instance en31 : Enters Try.prog 31 := ⟨Try.call31⟩
instance en32 : Enters Try.prog 32 := ⟨Try.call32⟩
instance en33 : Enters Try.prog 33 := ⟨Try.call33⟩
instance en34 : Enters Try.prog 34 := ⟨Try.call34⟩
instance en35 : Enters Try.prog 35 := ⟨Try.call35⟩
instance en36 : Enters Try.prog 36 := ⟨Try.call36⟩
instance en37 : Enters Try.prog 37 := ⟨Try.call37⟩
instance en38 : Enters Try.prog 38 := ⟨Try.call38⟩
instance en39 : Enters Try.prog 39 := ⟨Try.call39⟩
instance en40 : Enters Try.prog 40 := ⟨Try.call40⟩
instance en41 : Enters Try.prog 41 := ⟨Try.call41⟩
instance en42 : Enters Try.prog 42 := ⟨Try.call42⟩
instance en43 : Enters Try.prog 43 := ⟨Try.call43⟩
instance en44 : Enters Try.prog 44 := ⟨Try.call44⟩
instance en45 : Enters Try.prog 45 := ⟨Try.call45⟩
instance en46 : Enters Try.prog 46 := ⟨Try.call46⟩
instance en47 : Enters Try.prog 47 := ⟨Try.call47⟩
instance en48 : Enters Try.prog 48 := ⟨Try.call48⟩
instance en49 : Enters Try.prog 49 := ⟨Try.call49⟩
instance en50 : Enters Try.prog 50 := ⟨Try.call50⟩
instance en51 : Enters Try.prog 51 := ⟨Try.call51⟩
instance en52 : Enters Try.prog 52 := ⟨Try.call52⟩
instance en53 : Enters Try.prog 53 := ⟨Try.call53⟩
instance en54 : Enters Try.prog 54 := ⟨Try.call54⟩
instance en55 : Enters Try.prog 55 := ⟨Try.call55⟩
instance en56 : Enters Try.prog 56 := ⟨Try.call56⟩
instance en57 : Enters Try.prog 57 := ⟨Try.call57⟩
instance en58 : Enters Try.prog 58 := ⟨Try.call58⟩
instance en59 : Enters Try.prog 59 := ⟨Try.call59⟩
instance en60 : Enters Try.prog 60 := ⟨Try.call60⟩
instance en61 : Enters Try.prog 61 := ⟨Try.call61⟩
instance en62 : Enters Try.prog 62 := ⟨Try.call62⟩
instance en63 : Enters Try.prog 63 := ⟨Try.call63⟩
instance en64 : Enters Try.prog 64 := ⟨Try.call64⟩
instance en65 : Enters Try.prog 65 := ⟨Try.call65⟩
instance en66 : Enters Try.prog 66 := ⟨Try.call66⟩
instance en67 : Enters Try.prog 67 := ⟨Try.call67⟩
instance en68 : Enters Try.prog 68 := ⟨Try.call68⟩
instance en69 : Enters Try.prog 69 := ⟨Try.call69⟩
instance en70 : Enters Try.prog 70 := ⟨Try.call70⟩
instance en71 : Enters Try.prog 71 := ⟨Try.call71⟩
instance en72 : Enters Try.prog 72 := ⟨Try.call72⟩
instance en73 : Enters Try.prog 73 := ⟨Try.call73⟩
instance en74 : Enters Try.prog 74 := ⟨Try.call74⟩
instance en75 : Enters Try.prog 75 := ⟨Try.call75⟩
instance en76 : Enters Try.prog 76 := ⟨Try.call76⟩
instance en77 : Enters Try.prog 77 := ⟨Try.call77⟩
instance en78 : Enters Try.prog 78 := ⟨Try.call78⟩
instance en79 : Enters Try.prog 79 := ⟨Try.call79⟩
instance en80 : Enters Try.prog 80 := ⟨Try.call80⟩
instance en81 : Enters Try.prog 81 := ⟨Try.call81⟩
instance en82 : Enters Try.prog 82 := ⟨Try.call82⟩
instance en83 : Enters Try.prog 83 := ⟨Try.call83⟩
instance en84 : Enters Try.prog 84 := ⟨Try.call84⟩
instance en85 : Enters Try.prog 85 := ⟨Try.call85⟩
instance en86 : Enters Try.prog 86 := ⟨Try.call86⟩
instance en87 : Enters Try.prog 87 := ⟨Try.call87⟩
instance en88 : Enters Try.prog 88 := ⟨Try.call88⟩
instance en89 : Enters Try.prog 89 := ⟨Try.call89⟩
instance en90 : Enters Try.prog 90 := ⟨Try.call90⟩
instance en91 : Enters Try.prog 91 := ⟨Try.call91⟩
instance en92 : Enters Try.prog 92 := ⟨Try.call92⟩
instance en93 : Enters Try.prog 93 := ⟨Try.call93⟩
instance en94 : Enters Try.prog 94 := ⟨Try.call94⟩
instance en95 : Enters Try.prog 95 := ⟨Try.call95⟩
instance en96 : Enters Try.prog 96 := ⟨Try.call96⟩
instance en97 : Enters Try.prog 97 := ⟨Try.call97⟩
instance en98 : Enters Try.prog 98 := ⟨Try.call98⟩
instance en99 : Enters Try.prog 99 := ⟨Try.call99⟩
instance en100 : Enters Try.prog 100 := ⟨Try.call100⟩
instance en101 : Enters Try.prog 101 := ⟨Try.call101⟩
instance en102 : Enters Try.prog 102 := ⟨Try.call102⟩
instance en103 : Enters Try.prog 103 := ⟨Try.call103⟩
instance en104 : Enters Try.prog 104 := ⟨Try.call104⟩
instance en105 : Enters Try.prog 105 := ⟨Try.call105⟩
instance en106 : Enters Try.prog 106 := ⟨Try.call106⟩
instance en107 : Enters Try.prog 107 := ⟨Try.call107⟩
end Go.Proofs.Ytieejgbjgcbbjaa
