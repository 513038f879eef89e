/- Facts on the types of the program, one by one.  By a program (wip/gen/gsa.py). slices.AppendSeq, slices.Collect, maps.Keys at keys of type uint64, walked. Vectors, ops; slices.ContainsFunc at several types.  By a program (wip/gen/vec.py). Vectors, walked: Right, Clone, CutVec, SameVec. Arrays of numbers in an owned block. Shifts, bits, a string's byte. Chains: what they are; Len, Last, Search, after, At. Chains: after, At, copyOf, Put, New, List. Chains: copyOf, Put, New, List. The vault: what it is; holds, Check, copyOf. No condition. -/
import Derived.Test.YtjlgabojhnnbaaaGreatDoorProg
import Derived.KernelRfl
import Derived.Sort.Defs
import Derived.Test.YtjlgabojhnnbaaaGreatDoorPk02
set_option linter.unusedVariables false
set_option linter.unusedSimpArgs false
set_option linter.unusedSectionVars false
set_option maxHeartbeats 2000000
namespace Go.Proofs.YtjlgabojhnnbaaaGreatDoor
open Go Go.SX
instance hu2 :HasUnd Tryz.prog 2:=⟨_,Tryz.runUnderlying2⟩
instance it2 :IntTy Tryz.prog 2 .i64:=⟨Tryz.runUnderlying2,Tryz.underlying2⟩
instance ty3 :Ty Tryz.prog 3 false 1 [.int .i64 0] 8:=⟨⟨Tryz.t3,_,by kernel_rfl,rfl,rfl,rfl,rfl⟩,Tryz.isAgg3,Tryz.sizeOf3,⟨_,Tryz.zeroValue3,rfl⟩,⟨_,Tryz.typeInfo3,rfl⟩⟩
instance hu3 :HasUnd Tryz.prog 3:=⟨_,Tryz.runUnderlying3⟩
instance it3 :IntTy Tryz.prog 3 .i64:=⟨Tryz.runUnderlying3,Tryz.underlying3⟩
instance ty4 :Ty Tryz.prog 4 false 1 [.bool false] 1:=⟨⟨Tryz.t4,_,by kernel_rfl,rfl,rfl,rfl,rfl⟩,Tryz.isAgg4,Tryz.sizeOf4,⟨_,Tryz.zeroValue4,rfl⟩,⟨_,Tryz.typeInfo4,rfl⟩⟩
instance bt4 :BoolTy Tryz.prog 4:=⟨Tryz.underlying4⟩
instance ty5 :Ty Tryz.prog 5 false 1 [.int .u8 0] 1:=⟨⟨Tryz.t5,_,by kernel_rfl,rfl,rfl,rfl,rfl⟩,Tryz.isAgg5,Tryz.sizeOf5,⟨_,Tryz.zeroValue5,rfl⟩,⟨_,Tryz.typeInfo5,rfl⟩⟩
instance hu5 :HasUnd Tryz.prog 5:=⟨_,Tryz.runUnderlying5⟩
instance it5 :IntTy Tryz.prog 5 .u8:=⟨Tryz.runUnderlying5,Tryz.underlying5⟩
instance ty9 :Ty Tryz.prog 9 false 1 [.string ⟨#[]⟩] 16:=⟨⟨Tryz.t9,_,by kernel_rfl,rfl,rfl,rfl,rfl⟩,Tryz.isAgg9,Tryz.sizeOf9,⟨_,Tryz.zeroValue9,rfl⟩,⟨_,Tryz.typeInfo9,rfl⟩⟩
instance st9 :StrTy Tryz.prog 9:=⟨Tryz.runUnderlying9,Tryz.underlying9⟩
instance ty21 :Ty Tryz.prog 21 false 1 [.int .i32 0] 4:=⟨⟨Tryz.t21,_,by kernel_rfl,rfl,rfl,rfl,rfl⟩,Tryz.isAgg21,Tryz.sizeOf21,⟨_,Tryz.zeroValue21,rfl⟩,⟨_,Tryz.typeInfo21,rfl⟩⟩
instance hu21 :HasUnd Tryz.prog 21:=⟨_,Tryz.runUnderlying21⟩
instance it21 :IntTy Tryz.prog 21 .i32:=⟨Tryz.runUnderlying21,Tryz.underlying21⟩
instance sl22 :SlTy Tryz.prog 22 39:=⟨Tryz.runUnderlying22,Tryz.underlying22⟩
instance ty23 :Ty Tryz.prog 23 false 1 [.slice none 0 0] 24:=⟨⟨Tryz.t23,_,by kernel_rfl,rfl,rfl,rfl,rfl⟩,Tryz.isAgg23,Tryz.sizeOf23,⟨_,Tryz.zeroValue23,rfl⟩,⟨_,Tryz.typeInfo23,rfl⟩⟩
instance sl23 :SlTy Tryz.prog 23 5:=⟨Tryz.runUnderlying23,Tryz.underlying23⟩
instance pt25 :PtrTy Tryz.prog 25 63:=⟨Tryz.runUnderlying25,Tryz.underlying25⟩
instance ty26 :Ty Tryz.prog 26 false 1 [.int .i64 0] 8:=⟨⟨Tryz.t26,_,by kernel_rfl,rfl,rfl,rfl,rfl⟩,Tryz.isAgg26,Tryz.sizeOf26,⟨_,Tryz.zeroValue26,rfl⟩,⟨_,Tryz.typeInfo26,rfl⟩⟩
instance hu26 :HasUnd Tryz.prog 26:=⟨_,Tryz.runUnderlying26⟩
instance pt29 :PtrTy Tryz.prog 29 72:=⟨Tryz.runUnderlying29,Tryz.underlying29⟩
instance ty31 :Ty Tryz.prog 31 false 1 [.int .u64 0] 8:=⟨⟨Tryz.t31,_,by kernel_rfl,rfl,rfl,rfl,rfl⟩,Tryz.isAgg31,Tryz.sizeOf31,⟨_,Tryz.zeroValue31,rfl⟩,⟨_,Tryz.typeInfo31,rfl⟩⟩
instance hu31 :HasUnd Tryz.prog 31:=⟨_,Tryz.runUnderlying31⟩
instance it31 :IntTy Tryz.prog 31 .u64:=⟨Tryz.runUnderlying31,Tryz.underlying31⟩
instance ty32 :Ty Tryz.prog 32 false 1 [.slice none 0 0] 24:=⟨⟨Tryz.t32,_,by kernel_rfl,rfl,rfl,rfl,rfl⟩,Tryz.isAgg32,Tryz.sizeOf32,⟨_,Tryz.zeroValue32,rfl⟩,⟨_,Tryz.typeInfo32,rfl⟩⟩
instance sl32 :SlTy Tryz.prog 32 3:=⟨Tryz.runUnderlying32,Tryz.underlying32⟩
instance ty33 :Ty Tryz.prog 33 false 1 [.slice none 0 0] 24:=⟨⟨Tryz.t33,_,by kernel_rfl,rfl,rfl,rfl,rfl⟩,Tryz.isAgg33,Tryz.sizeOf33,⟨_,Tryz.zeroValue33,rfl⟩,⟨_,Tryz.typeInfo33,rfl⟩⟩
instance sl33 :SlTy Tryz.prog 33 119:=⟨Tryz.runUnderlying33,Tryz.underlying33⟩
instance ty34 :Ty Tryz.prog 34 false 1 [.slice none 0 0] 24:=⟨⟨Tryz.t34,_,by kernel_rfl,rfl,rfl,rfl,rfl⟩,Tryz.isAgg34,Tryz.sizeOf34,⟨_,Tryz.zeroValue34,rfl⟩,⟨_,Tryz.typeInfo34,rfl⟩⟩
instance sl34 :SlTy Tryz.prog 34 21:=⟨Tryz.runUnderlying34,Tryz.underlying34⟩
instance ty35 :Ty Tryz.prog 35 false 1 [.slice none 0 0] 24:=⟨⟨Tryz.t35,_,by kernel_rfl,rfl,rfl,rfl,rfl⟩,Tryz.isAgg35,Tryz.sizeOf35,⟨_,Tryz.zeroValue35,rfl⟩,⟨_,Tryz.typeInfo35,rfl⟩⟩
instance sl35 :SlTy Tryz.prog 35 219:=⟨Tryz.runUnderlying35,Tryz.underlying35⟩
instance ty37 :Ty Tryz.prog 37 true 16 [.int .u8 0,.int .u64 0,.int .u64 0,.int .u64 0,.int .u64 0,.int .u64 0,.int .u64 0,.int .u64 0,.int .i64 0,.int .i64 0,.int .i64 0,.int .i64 0,.slice none 0 0,.slice none 0 0,.slice none 0 0,.slice none 0 0] 192:=⟨⟨Tryz.t37,_,by kernel_rfl,rfl,rfl,rfl,rfl⟩,Tryz.isAgg37,Tryz.sizeOf37,⟨_,Tryz.zeroValue37,rfl⟩,⟨_,Tryz.typeInfo37,rfl⟩⟩
instance ss37 :StTy Tryz.prog 37 [(0,1,false),(1,1,false),(2,1,false),(3,1,false),(4,1,false),(5,1,false),(6,1,false),(7,1,false),(8,1,false),(9,1,false),(10,1,false),(11,1,false),(12,1,false),(13,1,false),(14,1,false),(15,1,false)]:=⟨_,Tryz.runUnderlying37,rfl,λi off sz ag h=>match i,h with
 |0,h=>by simp only[List.getElem?_cons_zero,List.getElem?_cons_succ,Option.some.injEq,Prod.mk.injEq] at h;obtain ⟨rfl,rfl,rfl⟩:=h;exact ⟨_,rfl,rfl,Tryz.sizeOf5,Tryz.isAgg5⟩
 |1,h=>by simp only[List.getElem?_cons_zero,List.getElem?_cons_succ,Option.some.injEq,Prod.mk.injEq] at h;obtain ⟨rfl,rfl,rfl⟩:=h;exact ⟨_,rfl,rfl,Tryz.sizeOf31,Tryz.isAgg31⟩
 |2,h=>by simp only[List.getElem?_cons_zero,List.getElem?_cons_succ,Option.some.injEq,Prod.mk.injEq] at h;obtain ⟨rfl,rfl,rfl⟩:=h;exact ⟨_,rfl,rfl,Tryz.sizeOf31,Tryz.isAgg31⟩
 |3,h=>by simp only[List.getElem?_cons_zero,List.getElem?_cons_succ,Option.some.injEq,Prod.mk.injEq] at h;obtain ⟨rfl,rfl,rfl⟩:=h;exact ⟨_,rfl,rfl,Tryz.sizeOf31,Tryz.isAgg31⟩
 |4,h=>by simp only[List.getElem?_cons_zero,List.getElem?_cons_succ,Option.some.injEq,Prod.mk.injEq] at h;obtain ⟨rfl,rfl,rfl⟩:=h;exact ⟨_,rfl,rfl,Tryz.sizeOf31,Tryz.isAgg31⟩
 |5,h=>by simp only[List.getElem?_cons_zero,List.getElem?_cons_succ,Option.some.injEq,Prod.mk.injEq] at h;obtain ⟨rfl,rfl,rfl⟩:=h;exact ⟨_,rfl,rfl,Tryz.sizeOf31,Tryz.isAgg31⟩
 |6,h=>by simp only[List.getElem?_cons_zero,List.getElem?_cons_succ,Option.some.injEq,Prod.mk.injEq] at h;obtain ⟨rfl,rfl,rfl⟩:=h;exact ⟨_,rfl,rfl,Tryz.sizeOf31,Tryz.isAgg31⟩
 |7,h=>by simp only[List.getElem?_cons_zero,List.getElem?_cons_succ,Option.some.injEq,Prod.mk.injEq] at h;obtain ⟨rfl,rfl,rfl⟩:=h;exact ⟨_,rfl,rfl,Tryz.sizeOf31,Tryz.isAgg31⟩
 |8,h=>by simp only[List.getElem?_cons_zero,List.getElem?_cons_succ,Option.some.injEq,Prod.mk.injEq] at h;obtain ⟨rfl,rfl,rfl⟩:=h;exact ⟨_,rfl,rfl,Tryz.sizeOf3,Tryz.isAgg3⟩
 |9,h=>by simp only[List.getElem?_cons_zero,List.getElem?_cons_succ,Option.some.injEq,Prod.mk.injEq] at h;obtain ⟨rfl,rfl,rfl⟩:=h;exact ⟨_,rfl,rfl,Tryz.sizeOf3,Tryz.isAgg3⟩
 |10,h=>by simp only[List.getElem?_cons_zero,List.getElem?_cons_succ,Option.some.injEq,Prod.mk.injEq] at h;obtain ⟨rfl,rfl,rfl⟩:=h;exact ⟨_,rfl,rfl,Tryz.sizeOf26,Tryz.isAgg26⟩
 |11,h=>by simp only[List.getElem?_cons_zero,List.getElem?_cons_succ,Option.some.injEq,Prod.mk.injEq] at h;obtain ⟨rfl,rfl,rfl⟩:=h;exact ⟨_,rfl,rfl,Tryz.sizeOf3,Tryz.isAgg3⟩
 |12,h=>by simp only[List.getElem?_cons_zero,List.getElem?_cons_succ,Option.some.injEq,Prod.mk.injEq] at h;obtain ⟨rfl,rfl,rfl⟩:=h;exact ⟨_,rfl,rfl,Tryz.sizeOf32,Tryz.isAgg32⟩
 |13,h=>by simp only[List.getElem?_cons_zero,List.getElem?_cons_succ,Option.some.injEq,Prod.mk.injEq] at h;obtain ⟨rfl,rfl,rfl⟩:=h;exact ⟨_,rfl,rfl,Tryz.sizeOf33,Tryz.isAgg33⟩
 |14,h=>by simp only[List.getElem?_cons_zero,List.getElem?_cons_succ,Option.some.injEq,Prod.mk.injEq] at h;obtain ⟨rfl,rfl,rfl⟩:=h;exact ⟨_,rfl,rfl,Tryz.sizeOf34,Tryz.isAgg34⟩
 |15,h=>by simp only[List.getElem?_cons_zero,List.getElem?_cons_succ,Option.some.injEq,Prod.mk.injEq] at h;obtain ⟨rfl,rfl,rfl⟩:=h;exact ⟨_,rfl,rfl,Tryz.sizeOf35,Tryz.isAgg35⟩
 |(i+16),h=>by simp at h⟩
instance ty39 :Ty Tryz.prog 39 true 21 [.int .i64 0,.int .u8 0,.int .u64 0,.int .u64 0,.int .u64 0,.int .u64 0,.int .u64 0,.int .u64 0,.int .u64 0,.int .i64 0,.int .i64 0,.int .i64 0,.int .i64 0,.slice none 0 0,.slice none 0 0,.slice none 0 0,.slice none 0 0,.bool false,.bool false,.int .u64 0,.int .u64 0] 224:=⟨⟨Tryz.t39,_,by kernel_rfl,rfl,rfl,rfl,rfl⟩,Tryz.isAgg39,Tryz.sizeOf39,⟨_,Tryz.zeroValue39,rfl⟩,⟨_,Tryz.typeInfo39,rfl⟩⟩
instance ss39 :StTy Tryz.prog 39 [(0,1,false),(1,16,true),(17,1,false),(18,1,false),(19,1,false),(20,1,false)]:=⟨_,Tryz.runUnderlying39,rfl,λi off sz ag h=>match i,h with
 |0,h=>by simp only[List.getElem?_cons_zero,List.getElem?_cons_succ,Option.some.injEq,Prod.mk.injEq] at h;obtain ⟨rfl,rfl,rfl⟩:=h;exact ⟨_,rfl,rfl,Tryz.sizeOf3,Tryz.isAgg3⟩
 |1,h=>by simp only[List.getElem?_cons_zero,List.getElem?_cons_succ,Option.some.injEq,Prod.mk.injEq] at h;obtain ⟨rfl,rfl,rfl⟩:=h;exact ⟨_,rfl,rfl,Tryz.sizeOf37,Tryz.isAgg37⟩
 |2,h=>by simp only[List.getElem?_cons_zero,List.getElem?_cons_succ,Option.some.injEq,Prod.mk.injEq] at h;obtain ⟨rfl,rfl,rfl⟩:=h;exact ⟨_,rfl,rfl,Tryz.sizeOf4,Tryz.isAgg4⟩
 |3,h=>by simp only[List.getElem?_cons_zero,List.getElem?_cons_succ,Option.some.injEq,Prod.mk.injEq] at h;obtain ⟨rfl,rfl,rfl⟩:=h;exact ⟨_,rfl,rfl,Tryz.sizeOf4,Tryz.isAgg4⟩
 |4,h=>by simp only[List.getElem?_cons_zero,List.getElem?_cons_succ,Option.some.injEq,Prod.mk.injEq] at h;obtain ⟨rfl,rfl,rfl⟩:=h;exact ⟨_,rfl,rfl,Tryz.sizeOf31,Tryz.isAgg31⟩
 |5,h=>by simp only[List.getElem?_cons_zero,List.getElem?_cons_succ,Option.some.injEq,Prod.mk.injEq] at h;obtain ⟨rfl,rfl,rfl⟩:=h;exact ⟨_,rfl,rfl,Tryz.sizeOf31,Tryz.isAgg31⟩
 |(i+6),h=>by simp at h⟩
instance ty47 :Ty Tryz.prog 47 false 1 [.slice none 0 0] 24:=⟨⟨Tryz.t47,_,by kernel_rfl,rfl,rfl,rfl,rfl⟩,Tryz.isAgg47,Tryz.sizeOf47,⟨_,Tryz.zeroValue47,rfl⟩,⟨_,Tryz.typeInfo47,rfl⟩⟩
instance sl47 :SlTy Tryz.prog 47 53:=⟨Tryz.runUnderlying47,Tryz.underlying47⟩
instance ty48 :Ty Tryz.prog 48 false 1 [.slice none 0 0] 24:=⟨⟨Tryz.t48,_,by kernel_rfl,rfl,rfl,rfl,rfl⟩,Tryz.isAgg48,Tryz.sizeOf48,⟨_,Tryz.zeroValue48,rfl⟩,⟨_,Tryz.typeInfo48,rfl⟩⟩
instance sl48 :SlTy Tryz.prog 48 55:=⟨Tryz.runUnderlying48,Tryz.underlying48⟩
instance ty50 :Ty Tryz.prog 50 true 3 [.slice none 0 0,.slice none 0 0,.slice none 0 0] 72:=⟨⟨Tryz.t50,_,by kernel_rfl,rfl,rfl,rfl,rfl⟩,Tryz.isAgg50,Tryz.sizeOf50,⟨_,Tryz.zeroValue50,rfl⟩,⟨_,Tryz.typeInfo50,rfl⟩⟩
instance ss50 :StTy Tryz.prog 50 [(0,1,false),(1,1,false),(2,1,false)]:=⟨_,Tryz.runUnderlying50,rfl,λi off sz ag h=>match i,h with
 |0,h=>by simp only[List.getElem?_cons_zero,List.getElem?_cons_succ,Option.some.injEq,Prod.mk.injEq] at h;obtain ⟨rfl,rfl,rfl⟩:=h;exact ⟨_,rfl,rfl,Tryz.sizeOf47,Tryz.isAgg47⟩
 |1,h=>by simp only[List.getElem?_cons_zero,List.getElem?_cons_succ,Option.some.injEq,Prod.mk.injEq] at h;obtain ⟨rfl,rfl,rfl⟩:=h;exact ⟨_,rfl,rfl,Tryz.sizeOf48,Tryz.isAgg48⟩
 |2,h=>by simp only[List.getElem?_cons_zero,List.getElem?_cons_succ,Option.some.injEq,Prod.mk.injEq] at h;obtain ⟨rfl,rfl,rfl⟩:=h;exact ⟨_,rfl,rfl,Tryz.sizeOf48,Tryz.isAgg48⟩
 |(i+3),h=>by simp at h⟩
instance ty53 :Ty Tryz.prog 53 true 16 [.int .u8 0,.int .u64 0,.int .u64 0,.int .u64 0,.int .u64 0,.int .u64 0,.int .u64 0,.int .u64 0,.int .i64 0,.int .i64 0,.int .i64 0,.int .i64 0,.slice none 0 0,.slice none 0 0,.slice none 0 0,.slice none 0 0] 192:=⟨⟨Tryz.t53,_,by kernel_rfl,rfl,rfl,rfl,rfl⟩,Tryz.isAgg53,Tryz.sizeOf53,⟨_,Tryz.zeroValue53,rfl⟩,⟨_,Tryz.typeInfo53,rfl⟩⟩
instance ss53 :StTy Tryz.prog 53 [(0,1,false),(1,1,false),(2,1,false),(3,1,false),(4,1,false),(5,1,false),(6,1,false),(7,1,false),(8,1,false),(9,1,false),(10,1,false),(11,1,false),(12,1,false),(13,1,false),(14,1,false),(15,1,false)]:=⟨_,Tryz.runUnderlying53,rfl,λi off sz ag h=>match i,h with
 |0,h=>by simp only[List.getElem?_cons_zero,List.getElem?_cons_succ,Option.some.injEq,Prod.mk.injEq] at h;obtain ⟨rfl,rfl,rfl⟩:=h;exact ⟨_,rfl,rfl,Tryz.sizeOf5,Tryz.isAgg5⟩
 |1,h=>by simp only[List.getElem?_cons_zero,List.getElem?_cons_succ,Option.some.injEq,Prod.mk.injEq] at h;obtain ⟨rfl,rfl,rfl⟩:=h;exact ⟨_,rfl,rfl,Tryz.sizeOf31,Tryz.isAgg31⟩
 |2,h=>by simp only[List.getElem?_cons_zero,List.getElem?_cons_succ,Option.some.injEq,Prod.mk.injEq] at h;obtain ⟨rfl,rfl,rfl⟩:=h;exact ⟨_,rfl,rfl,Tryz.sizeOf31,Tryz.isAgg31⟩
 |3,h=>by simp only[List.getElem?_cons_zero,List.getElem?_cons_succ,Option.some.injEq,Prod.mk.injEq] at h;obtain ⟨rfl,rfl,rfl⟩:=h;exact ⟨_,rfl,rfl,Tryz.sizeOf31,Tryz.isAgg31⟩
 |4,h=>by simp only[List.getElem?_cons_zero,List.getElem?_cons_succ,Option.some.injEq,Prod.mk.injEq] at h;obtain ⟨rfl,rfl,rfl⟩:=h;exact ⟨_,rfl,rfl,Tryz.sizeOf31,Tryz.isAgg31⟩
 |5,h=>by simp only[List.getElem?_cons_zero,List.getElem?_cons_succ,Option.some.injEq,Prod.mk.injEq] at h;obtain ⟨rfl,rfl,rfl⟩:=h;exact ⟨_,rfl,rfl,Tryz.sizeOf31,Tryz.isAgg31⟩
 |6,h=>by simp only[List.getElem?_cons_zero,List.getElem?_cons_succ,Option.some.injEq,Prod.mk.injEq] at h;obtain ⟨rfl,rfl,rfl⟩:=h;exact ⟨_,rfl,rfl,Tryz.sizeOf31,Tryz.isAgg31⟩
 |7,h=>by simp only[List.getElem?_cons_zero,List.getElem?_cons_succ,Option.some.injEq,Prod.mk.injEq] at h;obtain ⟨rfl,rfl,rfl⟩:=h;exact ⟨_,rfl,rfl,Tryz.sizeOf31,Tryz.isAgg31⟩
 |8,h=>by simp only[List.getElem?_cons_zero,List.getElem?_cons_succ,Option.some.injEq,Prod.mk.injEq] at h;obtain ⟨rfl,rfl,rfl⟩:=h;exact ⟨_,rfl,rfl,Tryz.sizeOf3,Tryz.isAgg3⟩
 |9,h=>by simp only[List.getElem?_cons_zero,List.getElem?_cons_succ,Option.some.injEq,Prod.mk.injEq] at h;obtain ⟨rfl,rfl,rfl⟩:=h;exact ⟨_,rfl,rfl,Tryz.sizeOf3,Tryz.isAgg3⟩
 |10,h=>by simp only[List.getElem?_cons_zero,List.getElem?_cons_succ,Option.some.injEq,Prod.mk.injEq] at h;obtain ⟨rfl,rfl,rfl⟩:=h;exact ⟨_,rfl,rfl,Tryz.sizeOf26,Tryz.isAgg26⟩
 |11,h=>by simp only[List.getElem?_cons_zero,List.getElem?_cons_succ,Option.some.injEq,Prod.mk.injEq] at h;obtain ⟨rfl,rfl,rfl⟩:=h;exact ⟨_,rfl,rfl,Tryz.sizeOf3,Tryz.isAgg3⟩
 |12,h=>by simp only[List.getElem?_cons_zero,List.getElem?_cons_succ,Option.some.injEq,Prod.mk.injEq] at h;obtain ⟨rfl,rfl,rfl⟩:=h;exact ⟨_,rfl,rfl,Tryz.sizeOf32,Tryz.isAgg32⟩
 |13,h=>by simp only[List.getElem?_cons_zero,List.getElem?_cons_succ,Option.some.injEq,Prod.mk.injEq] at h;obtain ⟨rfl,rfl,rfl⟩:=h;exact ⟨_,rfl,rfl,Tryz.sizeOf33,Tryz.isAgg33⟩
 |14,h=>by simp only[List.getElem?_cons_zero,List.getElem?_cons_succ,Option.some.injEq,Prod.mk.injEq] at h;obtain ⟨rfl,rfl,rfl⟩:=h;exact ⟨_,rfl,rfl,Tryz.sizeOf34,Tryz.isAgg34⟩
 |15,h=>by simp only[List.getElem?_cons_zero,List.getElem?_cons_succ,Option.some.injEq,Prod.mk.injEq] at h;obtain ⟨rfl,rfl,rfl⟩:=h;exact ⟨_,rfl,rfl,Tryz.sizeOf35,Tryz.isAgg35⟩
 |(i+16),h=>by simp at h⟩
instance ty55 :Ty Tryz.prog 55 true 17 [.int .i64 0,.int .u8 0,.int .u64 0,.int .u64 0,.int .u64 0,.int .u64 0,.int .u64 0,.int .u64 0,.int .u64 0,.int .i64 0,.int .i64 0,.int .i64 0,.int .i64 0,.slice none 0 0,.slice none 0 0,.slice none 0 0,.slice none 0 0] 200:=⟨⟨Tryz.t55,_,by kernel_rfl,rfl,rfl,rfl,rfl⟩,Tryz.isAgg55,Tryz.sizeOf55,⟨_,Tryz.zeroValue55,rfl⟩,⟨_,Tryz.typeInfo55,rfl⟩⟩
instance ss55 :StTy Tryz.prog 55 [(0,1,false),(1,16,true)]:=⟨_,Tryz.runUnderlying55,rfl,λi off sz ag h=>match i,h with
 |0,h=>by simp only[List.getElem?_cons_zero,List.getElem?_cons_succ,Option.some.injEq,Prod.mk.injEq] at h;obtain ⟨rfl,rfl,rfl⟩:=h;exact ⟨_,rfl,rfl,Tryz.sizeOf3,Tryz.isAgg3⟩
 |1,h=>by simp only[List.getElem?_cons_zero,List.getElem?_cons_succ,Option.some.injEq,Prod.mk.injEq] at h;obtain ⟨rfl,rfl,rfl⟩:=h;exact ⟨_,rfl,rfl,Tryz.sizeOf53,Tryz.isAgg53⟩
 |(i+2),h=>by simp at h⟩
instance ty57 :Ty Tryz.prog 57 false 1 [.pointer none] 8:=⟨⟨Tryz.t57,_,by kernel_rfl,rfl,rfl,rfl,rfl⟩,Tryz.isAgg57,Tryz.sizeOf57,⟨_,Tryz.zeroValue57,rfl⟩,⟨_,Tryz.typeInfo57,rfl⟩⟩
instance pt57 :PtrTy Tryz.prog 57 171:=⟨Tryz.runUnderlying57,Tryz.underlying57⟩
instance ty60 :Ty Tryz.prog 60 false 1 [.map none] 8:=⟨⟨Tryz.t60,_,by kernel_rfl,rfl,rfl,rfl,rfl⟩,Tryz.isAgg60,Tryz.sizeOf60,⟨_,Tryz.zeroValue60,rfl⟩,⟨_,Tryz.typeInfo60,rfl⟩⟩
instance mt60 :MapTy Tryz.prog 60 31 32:=⟨Tryz.runUnderlying60,Tryz.underlying60⟩
instance ty61 :Ty Tryz.prog 61 false 1 [.map none] 8:=⟨⟨Tryz.t61,_,by kernel_rfl,rfl,rfl,rfl,rfl⟩,Tryz.isAgg61,Tryz.sizeOf61,⟨_,Tryz.zeroValue61,rfl⟩,⟨_,Tryz.typeInfo61,rfl⟩⟩
instance mt61 :MapTy Tryz.prog 61 31 31:=⟨Tryz.runUnderlying61,Tryz.underlying61⟩
instance ty63 :Ty Tryz.prog 63 true 5 [.pointer none,.int .i64 0,.int .i64 0,.map none,.map none] 40:=⟨⟨Tryz.t63,_,by kernel_rfl,rfl,rfl,rfl,rfl⟩,Tryz.isAgg63,Tryz.sizeOf63,⟨_,Tryz.zeroValue63,rfl⟩,⟨_,Tryz.typeInfo63,rfl⟩⟩
instance ss63 :StTy Tryz.prog 63 [(0,1,false),(1,1,false),(2,1,false),(3,1,false),(4,1,false)]:=⟨_,Tryz.runUnderlying63,rfl,λi off sz ag h=>match i,h with
 |0,h=>by simp only[List.getElem?_cons_zero,List.getElem?_cons_succ,Option.some.injEq,Prod.mk.injEq] at h;obtain ⟨rfl,rfl,rfl⟩:=h;exact ⟨_,rfl,rfl,Tryz.sizeOf57,Tryz.isAgg57⟩
 |1,h=>by simp only[List.getElem?_cons_zero,List.getElem?_cons_succ,Option.some.injEq,Prod.mk.injEq] at h;obtain ⟨rfl,rfl,rfl⟩:=h;exact ⟨_,rfl,rfl,Tryz.sizeOf3,Tryz.isAgg3⟩
 |2,h=>by simp only[List.getElem?_cons_zero,List.getElem?_cons_succ,Option.some.injEq,Prod.mk.injEq] at h;obtain ⟨rfl,rfl,rfl⟩:=h;exact ⟨_,rfl,rfl,Tryz.sizeOf3,Tryz.isAgg3⟩
 |3,h=>by simp only[List.getElem?_cons_zero,List.getElem?_cons_succ,Option.some.injEq,Prod.mk.injEq] at h;obtain ⟨rfl,rfl,rfl⟩:=h;exact ⟨_,rfl,rfl,Tryz.sizeOf60,Tryz.isAgg60⟩
 |4,h=>by simp only[List.getElem?_cons_zero,List.getElem?_cons_succ,Option.some.injEq,Prod.mk.injEq] at h;obtain ⟨rfl,rfl,rfl⟩:=h;exact ⟨_,rfl,rfl,Tryz.sizeOf61,Tryz.isAgg61⟩
 |(i+5),h=>by simp at h⟩
instance ty64 :Ty Tryz.prog 64 false 1 [.pointer none] 8:=⟨⟨Tryz.t64,_,by kernel_rfl,rfl,rfl,rfl,rfl⟩,Tryz.isAgg64,Tryz.sizeOf64,⟨_,Tryz.zeroValue64,rfl⟩,⟨_,Tryz.typeInfo64,rfl⟩⟩
instance pt64 :PtrTy Tryz.prog 64 68:=⟨Tryz.runUnderlying64,Tryz.underlying64⟩
instance ty65 :Ty Tryz.prog 65 false 1 [.slice none 0 0] 24:=⟨⟨Tryz.t65,_,by kernel_rfl,rfl,rfl,rfl,rfl⟩,Tryz.isAgg65,Tryz.sizeOf65,⟨_,Tryz.zeroValue65,rfl⟩,⟨_,Tryz.typeInfo65,rfl⟩⟩
instance sl65 :SlTy Tryz.prog 65 147:=⟨Tryz.runUnderlying65,Tryz.underlying65⟩
instance ty66 :Ty Tryz.prog 66 false 1 [.slice none 0 0] 24:=⟨⟨Tryz.t66,_,by kernel_rfl,rfl,rfl,rfl,rfl⟩,Tryz.isAgg66,Tryz.sizeOf66,⟨_,Tryz.zeroValue66,rfl⟩,⟨_,Tryz.typeInfo66,rfl⟩⟩
instance sl66 :SlTy Tryz.prog 66 151:=⟨Tryz.runUnderlying66,Tryz.underlying66⟩
instance ty68 :Ty Tryz.prog 68 true 4 [.int .i64 0,.slice none 0 0,.slice none 0 0,.int .u64 0] 64:=⟨⟨Tryz.t68,_,by kernel_rfl,rfl,rfl,rfl,rfl⟩,Tryz.isAgg68,Tryz.sizeOf68,⟨_,Tryz.zeroValue68,rfl⟩,⟨_,Tryz.typeInfo68,rfl⟩⟩
instance ss68 :StTy Tryz.prog 68 [(0,1,false),(1,1,false),(2,1,false),(3,1,false)]:=⟨_,Tryz.runUnderlying68,rfl,λi off sz ag h=>match i,h with
 |0,h=>by simp only[List.getElem?_cons_zero,List.getElem?_cons_succ,Option.some.injEq,Prod.mk.injEq] at h;obtain ⟨rfl,rfl,rfl⟩:=h;exact ⟨_,rfl,rfl,Tryz.sizeOf3,Tryz.isAgg3⟩
 |1,h=>by simp only[List.getElem?_cons_zero,List.getElem?_cons_succ,Option.some.injEq,Prod.mk.injEq] at h;obtain ⟨rfl,rfl,rfl⟩:=h;exact ⟨_,rfl,rfl,Tryz.sizeOf65,Tryz.isAgg65⟩
 |2,h=>by simp only[List.getElem?_cons_zero,List.getElem?_cons_succ,Option.some.injEq,Prod.mk.injEq] at h;obtain ⟨rfl,rfl,rfl⟩:=h;exact ⟨_,rfl,rfl,Tryz.sizeOf66,Tryz.isAgg66⟩
 |3,h=>by simp only[List.getElem?_cons_zero,List.getElem?_cons_succ,Option.some.injEq,Prod.mk.injEq] at h;obtain ⟨rfl,rfl,rfl⟩:=h;exact ⟨_,rfl,rfl,Tryz.sizeOf31,Tryz.isAgg31⟩
 |(i+4),h=>by simp at h⟩
instance ty69 :Ty Tryz.prog 69 false 1 [.slice none 0 0] 24:=⟨⟨Tryz.t69,_,by kernel_rfl,rfl,rfl,rfl,rfl⟩,Tryz.isAgg69,Tryz.sizeOf69,⟨_,Tryz.zeroValue69,rfl⟩,⟨_,Tryz.typeInfo69,rfl⟩⟩
instance sl69 :SlTy Tryz.prog 69 155:=⟨Tryz.runUnderlying69,Tryz.underlying69⟩
instance ty70 :Ty Tryz.prog 70 false 1 [.slice none 0 0] 24:=⟨⟨Tryz.t70,_,by kernel_rfl,rfl,rfl,rfl,rfl⟩,Tryz.isAgg70,Tryz.sizeOf70,⟨_,Tryz.zeroValue70,rfl⟩,⟨_,Tryz.typeInfo70,rfl⟩⟩
instance sl70 :SlTy Tryz.prog 70 157:=⟨Tryz.runUnderlying70,Tryz.underlying70⟩
instance ty72 :Ty Tryz.prog 72 true 4 [.int .i64 0,.pointer none,.slice none 0 0,.slice none 0 0] 64:=⟨⟨Tryz.t72,_,by kernel_rfl,rfl,rfl,rfl,rfl⟩,Tryz.isAgg72,Tryz.sizeOf72,⟨_,Tryz.zeroValue72,rfl⟩,⟨_,Tryz.typeInfo72,rfl⟩⟩
instance ss72 :StTy Tryz.prog 72 [(0,1,false),(1,1,false),(2,1,false),(3,1,false)]:=⟨_,Tryz.runUnderlying72,rfl,λi off sz ag h=>match i,h with
 |0,h=>by simp only[List.getElem?_cons_zero,List.getElem?_cons_succ,Option.some.injEq,Prod.mk.injEq] at h;obtain ⟨rfl,rfl,rfl⟩:=h;exact ⟨_,rfl,rfl,Tryz.sizeOf3,Tryz.isAgg3⟩
 |1,h=>by simp only[List.getElem?_cons_zero,List.getElem?_cons_succ,Option.some.injEq,Prod.mk.injEq] at h;obtain ⟨rfl,rfl,rfl⟩:=h;exact ⟨_,rfl,rfl,Tryz.sizeOf64,Tryz.isAgg64⟩
 |2,h=>by simp only[List.getElem?_cons_zero,List.getElem?_cons_succ,Option.some.injEq,Prod.mk.injEq] at h;obtain ⟨rfl,rfl,rfl⟩:=h;exact ⟨_,rfl,rfl,Tryz.sizeOf69,Tryz.isAgg69⟩
 |3,h=>by simp only[List.getElem?_cons_zero,List.getElem?_cons_succ,Option.some.injEq,Prod.mk.injEq] at h;obtain ⟨rfl,rfl,rfl⟩:=h;exact ⟨_,rfl,rfl,Tryz.sizeOf70,Tryz.isAgg70⟩
 |(i+4),h=>by simp at h⟩
instance ty75 :Ty Tryz.prog 75 false 1 [.slice none 0 0] 24:=⟨⟨Tryz.t75,_,by kernel_rfl,rfl,rfl,rfl,rfl⟩,Tryz.isAgg75,Tryz.sizeOf75,⟨_,Tryz.zeroValue75,rfl⟩,⟨_,Tryz.typeInfo75,rfl⟩⟩
instance sl75 :SlTy Tryz.prog 75 37:=⟨Tryz.runUnderlying75,Tryz.underlying75⟩
instance ty76 :Ty Tryz.prog 76 false 1 [.slice none 0 0] 24:=⟨⟨Tryz.t76,_,by kernel_rfl,rfl,rfl,rfl,rfl⟩,Tryz.isAgg76,Tryz.sizeOf76,⟨_,Tryz.zeroValue76,rfl⟩,⟨_,Tryz.typeInfo76,rfl⟩⟩
instance sl76 :SlTy Tryz.prog 76 183:=⟨Tryz.runUnderlying76,Tryz.underlying76⟩
instance ty78 :Ty Tryz.prog 78 true 3 [.slice none 0 0,.slice none 0 0,.slice none 0 0] 72:=⟨⟨Tryz.t78,_,by kernel_rfl,rfl,rfl,rfl,rfl⟩,Tryz.isAgg78,Tryz.sizeOf78,⟨_,Tryz.zeroValue78,rfl⟩,⟨_,Tryz.typeInfo78,rfl⟩⟩
instance ss78 :StTy Tryz.prog 78 [(0,1,false),(1,1,false),(2,1,false)]:=⟨_,Tryz.runUnderlying78,rfl,λi off sz ag h=>match i,h with
 |0,h=>by simp only[List.getElem?_cons_zero,List.getElem?_cons_succ,Option.some.injEq,Prod.mk.injEq] at h;obtain ⟨rfl,rfl,rfl⟩:=h;exact ⟨_,rfl,rfl,Tryz.sizeOf75,Tryz.isAgg75⟩
 |1,h=>by simp only[List.getElem?_cons_zero,List.getElem?_cons_succ,Option.some.injEq,Prod.mk.injEq] at h;obtain ⟨rfl,rfl,rfl⟩:=h;exact ⟨_,rfl,rfl,Tryz.sizeOf76,Tryz.isAgg76⟩
 |2,h=>by simp only[List.getElem?_cons_zero,List.getElem?_cons_succ,Option.some.injEq,Prod.mk.injEq] at h;obtain ⟨rfl,rfl,rfl⟩:=h;exact ⟨_,rfl,rfl,Tryz.sizeOf76,Tryz.isAgg76⟩
 |(i+3),h=>by simp at h⟩
instance pt83 :PtrTy Tryz.prog 83 191:=⟨Tryz.runUnderlying83,Tryz.underlying83⟩
instance sl86 :SlTy Tryz.prog 86 94:=⟨Tryz.runUnderlying86,Tryz.underlying86⟩
instance sl88 :SlTy Tryz.prog 88 102:=⟨Tryz.runUnderlying88,Tryz.underlying88⟩
instance ty90 :Ty Tryz.prog 90 false 1 [.slice none 0 0] 24:=⟨⟨Tryz.t90,_,by kernel_rfl,rfl,rfl,rfl,rfl⟩,Tryz.isAgg90,Tryz.sizeOf90,⟨_,Tryz.zeroValue90,rfl⟩,⟨_,Tryz.typeInfo90,rfl⟩⟩
instance sl90 :SlTy Tryz.prog 90 31:=⟨Tryz.runUnderlying90,Tryz.underlying90⟩
instance ty92 :Ty Tryz.prog 92 false 1 [.slice none 0 0] 24:=⟨⟨Tryz.t92,_,by kernel_rfl,rfl,rfl,rfl,rfl⟩,Tryz.isAgg92,Tryz.sizeOf92,⟨_,Tryz.zeroValue92,rfl⟩,⟨_,Tryz.typeInfo92,rfl⟩⟩
instance sl92 :SlTy Tryz.prog 92 116:=⟨Tryz.runUnderlying92,Tryz.underlying92⟩
instance ty94 :Ty Tryz.prog 94 true 2 [.int .u64 0,.slice none 0 0] 32:=⟨⟨Tryz.t94,_,by kernel_rfl,rfl,rfl,rfl,rfl⟩,Tryz.isAgg94,Tryz.sizeOf94,⟨_,Tryz.zeroValue94,rfl⟩,⟨_,Tryz.typeInfo94,rfl⟩⟩
instance ss94 :StTy Tryz.prog 94 [(0,1,false),(1,1,false)]:=⟨_,Tryz.runUnderlying94,rfl,λi off sz ag h=>match i,h with
 |0,h=>by simp only[List.getElem?_cons_zero,List.getElem?_cons_succ,Option.some.injEq,Prod.mk.injEq] at h;obtain ⟨rfl,rfl,rfl⟩:=h;exact ⟨_,rfl,rfl,Tryz.sizeOf31,Tryz.isAgg31⟩
 |1,h=>by simp only[List.getElem?_cons_zero,List.getElem?_cons_succ,Option.some.injEq,Prod.mk.injEq] at h;obtain ⟨rfl,rfl,rfl⟩:=h;exact ⟨_,rfl,rfl,Tryz.sizeOf92,Tryz.isAgg92⟩
 |(i+2),h=>by simp at h⟩
instance ty100 :Ty Tryz.prog 100 true 3 [.int .u64 0,.int .u64 0,.slice none 0 0] 40:=⟨⟨Tryz.t100,_,by kernel_rfl,rfl,rfl,rfl,rfl⟩,Tryz.isAgg100,Tryz.sizeOf100,⟨_,Tryz.zeroValue100,rfl⟩,⟨_,Tryz.typeInfo100,rfl⟩⟩
instance ss100 :StTy Tryz.prog 100 [(0,1,false),(1,1,false),(2,1,false)]:=⟨_,Tryz.runUnderlying100,rfl,λi off sz ag h=>match i,h with
 |0,h=>by simp only[List.getElem?_cons_zero,List.getElem?_cons_succ,Option.some.injEq,Prod.mk.injEq] at h;obtain ⟨rfl,rfl,rfl⟩:=h;exact ⟨_,rfl,rfl,Tryz.sizeOf31,Tryz.isAgg31⟩
 |1,h=>by simp only[List.getElem?_cons_zero,List.getElem?_cons_succ,Option.some.injEq,Prod.mk.injEq] at h;obtain ⟨rfl,rfl,rfl⟩:=h;exact ⟨_,rfl,rfl,Tryz.sizeOf31,Tryz.isAgg31⟩
 |2,h=>by simp only[List.getElem?_cons_zero,List.getElem?_cons_succ,Option.some.injEq,Prod.mk.injEq] at h;obtain ⟨rfl,rfl,rfl⟩:=h;exact ⟨_,rfl,rfl,Tryz.sizeOf33,Tryz.isAgg33⟩
 |(i+3),h=>by simp at h⟩
instance ty102 :Ty Tryz.prog 102 true 4 [.int .u64 0,.int .u64 0,.slice none 0 0,.slice none 0 0] 64:=⟨⟨Tryz.t102,_,by kernel_rfl,rfl,rfl,rfl,rfl⟩,Tryz.isAgg102,Tryz.sizeOf102,⟨_,Tryz.zeroValue102,rfl⟩,⟨_,Tryz.typeInfo102,rfl⟩⟩
instance ss102 :StTy Tryz.prog 102 [(0,3,true),(3,1,false)]:=⟨_,Tryz.runUnderlying102,rfl,λi off sz ag h=>match i,h with
 |0,h=>by simp only[List.getElem?_cons_zero,List.getElem?_cons_succ,Option.some.injEq,Prod.mk.injEq] at h;obtain ⟨rfl,rfl,rfl⟩:=h;exact ⟨_,rfl,rfl,Tryz.sizeOf100,Tryz.isAgg100⟩
 |1,h=>by simp only[List.getElem?_cons_zero,List.getElem?_cons_succ,Option.some.injEq,Prod.mk.injEq] at h;obtain ⟨rfl,rfl,rfl⟩:=h;exact ⟨_,rfl,rfl,Tryz.sizeOf32,Tryz.isAgg32⟩
 |(i+2),h=>by simp at h⟩
instance sl108 :SlTy Tryz.prog 108 100:=⟨Tryz.runUnderlying108,Tryz.underlying108⟩
instance pt111 :PtrTy Tryz.prog 111 113:=⟨Tryz.runUnderlying111,Tryz.underlying111⟩
instance ty113 :Ty Tryz.prog 113 true 1 [.slice none 0 0] 24:=⟨⟨Tryz.t113,_,by kernel_rfl,rfl,rfl,rfl,rfl⟩,Tryz.isAgg113,Tryz.sizeOf113,⟨_,Tryz.zeroValue113,rfl⟩,⟨_,Tryz.typeInfo113,rfl⟩⟩
instance ss113 :StTy Tryz.prog 113 [(0,1,false)]:=⟨_,Tryz.runUnderlying113,rfl,λi off sz ag h=>match i,h with
 |0,h=>by simp only[List.getElem?_cons_zero,List.getElem?_cons_succ,Option.some.injEq,Prod.mk.injEq] at h;obtain ⟨rfl,rfl,rfl⟩:=h;exact ⟨_,rfl,rfl,Tryz.sizeOf23,Tryz.isAgg23⟩
 |(i+1),h=>by simp at h⟩
instance ty116 :Ty Tryz.prog 116 true 2 [.int .u64 0,.slice none 0 0] 32:=⟨⟨Tryz.t116,_,by kernel_rfl,rfl,rfl,rfl,rfl⟩,Tryz.isAgg116,Tryz.sizeOf116,⟨_,Tryz.zeroValue116,rfl⟩,⟨_,Tryz.typeInfo116,rfl⟩⟩
instance ss116 :StTy Tryz.prog 116 [(0,1,false),(1,1,false)]:=⟨_,Tryz.runUnderlying116,rfl,λi off sz ag h=>match i,h with
 |0,h=>by simp only[List.getElem?_cons_zero,List.getElem?_cons_succ,Option.some.injEq,Prod.mk.injEq] at h;obtain ⟨rfl,rfl,rfl⟩:=h;exact ⟨_,rfl,rfl,Tryz.sizeOf31,Tryz.isAgg31⟩
 |1,h=>by simp only[List.getElem?_cons_zero,List.getElem?_cons_succ,Option.some.injEq,Prod.mk.injEq] at h;obtain ⟨rfl,rfl,rfl⟩:=h;exact ⟨_,rfl,rfl,Tryz.sizeOf34,Tryz.isAgg34⟩
 |(i+2),h=>by simp at h⟩
instance ty119 :Ty Tryz.prog 119 true 2 [.int .u64 0,.slice none 0 0] 32:=⟨⟨Tryz.t119,_,by kernel_rfl,rfl,rfl,rfl,rfl⟩,Tryz.isAgg119,Tryz.sizeOf119,⟨_,Tryz.zeroValue119,rfl⟩,⟨_,Tryz.typeInfo119,rfl⟩⟩
instance ss119 :StTy Tryz.prog 119 [(0,1,false),(1,1,false)]:=⟨_,Tryz.runUnderlying119,rfl,λi off sz ag h=>match i,h with
 |0,h=>by simp only[List.getElem?_cons_zero,List.getElem?_cons_succ,Option.some.injEq,Prod.mk.injEq] at h;obtain ⟨rfl,rfl,rfl⟩:=h;exact ⟨_,rfl,rfl,Tryz.sizeOf31,Tryz.isAgg31⟩
 |1,h=>by simp only[List.getElem?_cons_zero,List.getElem?_cons_succ,Option.some.injEq,Prod.mk.injEq] at h;obtain ⟨rfl,rfl,rfl⟩:=h;exact ⟨_,rfl,rfl,Tryz.sizeOf34,Tryz.isAgg34⟩
 |(i+2),h=>by simp at h⟩
instance ty142 :Ty Tryz.prog 142 true 2 [.slice none 0 0,.bool false] 32:=⟨⟨Tryz.t142,_,by kernel_rfl,rfl,rfl,rfl,rfl⟩,Tryz.isAgg142,Tryz.sizeOf142,⟨_,Tryz.zeroValue142,rfl⟩,⟨_,Tryz.typeInfo142,rfl⟩⟩
instance ss142 :StTy Tryz.prog 142 [(0,1,false),(1,1,false)]:=⟨_,Tryz.runUnderlying142,rfl,λi off sz ag h=>match i,h with
 |0,h=>by simp only[List.getElem?_cons_zero,List.getElem?_cons_succ,Option.some.injEq,Prod.mk.injEq] at h;obtain ⟨rfl,rfl,rfl⟩:=h;exact ⟨_,rfl,rfl,Tryz.sizeOf23,Tryz.isAgg23⟩
 |1,h=>by simp only[List.getElem?_cons_zero,List.getElem?_cons_succ,Option.some.injEq,Prod.mk.injEq] at h;obtain ⟨rfl,rfl,rfl⟩:=h;exact ⟨_,rfl,rfl,Tryz.sizeOf4,Tryz.isAgg4⟩
 |(i+2),h=>by simp at h⟩
instance ty145 :Ty Tryz.prog 145 false 1 [.slice none 0 0] 24:=⟨⟨Tryz.t145,_,by kernel_rfl,rfl,rfl,rfl,rfl⟩,Tryz.isAgg145,Tryz.sizeOf145,⟨_,Tryz.zeroValue145,rfl⟩,⟨_,Tryz.typeInfo145,rfl⟩⟩
instance sl145 :SlTy Tryz.prog 145 149:=⟨Tryz.runUnderlying145,Tryz.underlying145⟩
instance ty147 :Ty Tryz.prog 147 true 2 [.int .u64 0,.slice none 0 0] 32:=⟨⟨Tryz.t147,_,by kernel_rfl,rfl,rfl,rfl,rfl⟩,Tryz.isAgg147,Tryz.sizeOf147,⟨_,Tryz.zeroValue147,rfl⟩,⟨_,Tryz.typeInfo147,rfl⟩⟩
instance ss147 :StTy Tryz.prog 147 [(0,1,false),(1,1,false)]:=⟨_,Tryz.runUnderlying147,rfl,λi off sz ag h=>match i,h with
 |0,h=>by simp only[List.getElem?_cons_zero,List.getElem?_cons_succ,Option.some.injEq,Prod.mk.injEq] at h;obtain ⟨rfl,rfl,rfl⟩:=h;exact ⟨_,rfl,rfl,Tryz.sizeOf31,Tryz.isAgg31⟩
 |1,h=>by simp only[List.getElem?_cons_zero,List.getElem?_cons_succ,Option.some.injEq,Prod.mk.injEq] at h;obtain ⟨rfl,rfl,rfl⟩:=h;exact ⟨_,rfl,rfl,Tryz.sizeOf145,Tryz.isAgg145⟩
 |(i+2),h=>by simp at h⟩
instance ty149 :Ty Tryz.prog 149 true 2 [.int .u64 0,.slice none 0 0] 32:=⟨⟨Tryz.t149,_,by kernel_rfl,rfl,rfl,rfl,rfl⟩,Tryz.isAgg149,Tryz.sizeOf149,⟨_,Tryz.zeroValue149,rfl⟩,⟨_,Tryz.typeInfo149,rfl⟩⟩
instance ss149 :StTy Tryz.prog 149 [(0,1,false),(1,1,false)]:=⟨_,Tryz.runUnderlying149,rfl,λi off sz ag h=>match i,h with
 |0,h=>by simp only[List.getElem?_cons_zero,List.getElem?_cons_succ,Option.some.injEq,Prod.mk.injEq] at h;obtain ⟨rfl,rfl,rfl⟩:=h;exact ⟨_,rfl,rfl,Tryz.sizeOf31,Tryz.isAgg31⟩
 |1,h=>by simp only[List.getElem?_cons_zero,List.getElem?_cons_succ,Option.some.injEq,Prod.mk.injEq] at h;obtain ⟨rfl,rfl,rfl⟩:=h;exact ⟨_,rfl,rfl,Tryz.sizeOf34,Tryz.isAgg34⟩
 |(i+2),h=>by simp at h⟩
instance ty151 :Ty Tryz.prog 151 true 3 [.int .u64 0,.int .u64 0,.slice none 0 0] 40:=⟨⟨Tryz.t151,_,by kernel_rfl,rfl,rfl,rfl,rfl⟩,Tryz.isAgg151,Tryz.sizeOf151,⟨_,Tryz.zeroValue151,rfl⟩,⟨_,Tryz.typeInfo151,rfl⟩⟩
instance ss151 :StTy Tryz.prog 151 [(0,1,false),(1,1,false),(2,1,false)]:=⟨_,Tryz.runUnderlying151,rfl,λi off sz ag h=>match i,h with
 |0,h=>by simp only[List.getElem?_cons_zero,List.getElem?_cons_succ,Option.some.injEq,Prod.mk.injEq] at h;obtain ⟨rfl,rfl,rfl⟩:=h;exact ⟨_,rfl,rfl,Tryz.sizeOf31,Tryz.isAgg31⟩
 |1,h=>by simp only[List.getElem?_cons_zero,List.getElem?_cons_succ,Option.some.injEq,Prod.mk.injEq] at h;obtain ⟨rfl,rfl,rfl⟩:=h;exact ⟨_,rfl,rfl,Tryz.sizeOf31,Tryz.isAgg31⟩
 |2,h=>by simp only[List.getElem?_cons_zero,List.getElem?_cons_succ,Option.some.injEq,Prod.mk.injEq] at h;obtain ⟨rfl,rfl,rfl⟩:=h;exact ⟨_,rfl,rfl,Tryz.sizeOf33,Tryz.isAgg33⟩
 |(i+3),h=>by simp at h⟩
instance ty155 :Ty Tryz.prog 155 true 2 [.int .u64 0,.slice none 0 0] 32:=⟨⟨Tryz.t155,_,by kernel_rfl,rfl,rfl,rfl,rfl⟩,Tryz.isAgg155,Tryz.sizeOf155,⟨_,Tryz.zeroValue155,rfl⟩,⟨_,Tryz.typeInfo155,rfl⟩⟩
instance ss155 :StTy Tryz.prog 155 [(0,1,false),(1,1,false)]:=⟨_,Tryz.runUnderlying155,rfl,λi off sz ag h=>match i,h with
 |0,h=>by simp only[List.getElem?_cons_zero,List.getElem?_cons_succ,Option.some.injEq,Prod.mk.injEq] at h;obtain ⟨rfl,rfl,rfl⟩:=h;exact ⟨_,rfl,rfl,Tryz.sizeOf31,Tryz.isAgg31⟩
 |1,h=>by simp only[List.getElem?_cons_zero,List.getElem?_cons_succ,Option.some.injEq,Prod.mk.injEq] at h;obtain ⟨rfl,rfl,rfl⟩:=h;exact ⟨_,rfl,rfl,Tryz.sizeOf32,Tryz.isAgg32⟩
 |(i+2),h=>by simp at h⟩
instance ty157 :Ty Tryz.prog 157 true 2 [.int .u64 0,.int .u64 0] 16:=⟨⟨Tryz.t157,_,by kernel_rfl,rfl,rfl,rfl,rfl⟩,Tryz.isAgg157,Tryz.sizeOf157,⟨_,Tryz.zeroValue157,rfl⟩,⟨_,Tryz.typeInfo157,rfl⟩⟩
instance ss157 :StTy Tryz.prog 157 [(0,1,false),(1,1,false)]:=⟨_,Tryz.runUnderlying157,rfl,λi off sz ag h=>match i,h with
 |0,h=>by simp only[List.getElem?_cons_zero,List.getElem?_cons_succ,Option.some.injEq,Prod.mk.injEq] at h;obtain ⟨rfl,rfl,rfl⟩:=h;exact ⟨_,rfl,rfl,Tryz.sizeOf31,Tryz.isAgg31⟩
 |1,h=>by simp only[List.getElem?_cons_zero,List.getElem?_cons_succ,Option.some.injEq,Prod.mk.injEq] at h;obtain ⟨rfl,rfl,rfl⟩:=h;exact ⟨_,rfl,rfl,Tryz.sizeOf31,Tryz.isAgg31⟩
 |(i+2),h=>by simp at h⟩
instance sl166 :SlTy Tryz.prog 166 242:=⟨Tryz.runUnderlying166,Tryz.underlying166⟩
instance ty168 :Ty Tryz.prog 168 false 1 [.map none] 8:=⟨⟨Tryz.t168,_,by kernel_rfl,rfl,rfl,rfl,rfl⟩,Tryz.isAgg168,Tryz.sizeOf168,⟨_,Tryz.zeroValue168,rfl⟩,⟨_,Tryz.typeInfo168,rfl⟩⟩
instance mt168 :MapTy Tryz.prog 168 31 197:=⟨Tryz.runUnderlying168,Tryz.underlying168⟩
instance ty169 :Ty Tryz.prog 169 false 1 [.map none] 8:=⟨⟨Tryz.t169,_,by kernel_rfl,rfl,rfl,rfl,rfl⟩,Tryz.isAgg169,Tryz.sizeOf169,⟨_,Tryz.zeroValue169,rfl⟩,⟨_,Tryz.typeInfo169,rfl⟩⟩
instance mt169 :MapTy Tryz.prog 169 31 100:=⟨Tryz.runUnderlying169,Tryz.underlying169⟩
instance ty171 :Ty Tryz.prog 171 true 4 [.int .i64 0,.map none,.map none,.int .u64 0] 32:=⟨⟨Tryz.t171,_,by kernel_rfl,rfl,rfl,rfl,rfl⟩,Tryz.isAgg171,Tryz.sizeOf171,⟨_,Tryz.zeroValue171,rfl⟩,⟨_,Tryz.typeInfo171,rfl⟩⟩
instance ss171 :StTy Tryz.prog 171 [(0,1,false),(1,1,false),(2,1,false),(3,1,false)]:=⟨_,Tryz.runUnderlying171,rfl,λi off sz ag h=>match i,h with
 |0,h=>by simp only[List.getElem?_cons_zero,List.getElem?_cons_succ,Option.some.injEq,Prod.mk.injEq] at h;obtain ⟨rfl,rfl,rfl⟩:=h;exact ⟨_,rfl,rfl,Tryz.sizeOf3,Tryz.isAgg3⟩
 |1,h=>by simp only[List.getElem?_cons_zero,List.getElem?_cons_succ,Option.some.injEq,Prod.mk.injEq] at h;obtain ⟨rfl,rfl,rfl⟩:=h;exact ⟨_,rfl,rfl,Tryz.sizeOf168,Tryz.isAgg168⟩
 |2,h=>by simp only[List.getElem?_cons_zero,List.getElem?_cons_succ,Option.some.injEq,Prod.mk.injEq] at h;obtain ⟨rfl,rfl,rfl⟩:=h;exact ⟨_,rfl,rfl,Tryz.sizeOf169,Tryz.isAgg169⟩
 |3,h=>by simp only[List.getElem?_cons_zero,List.getElem?_cons_succ,Option.some.injEq,Prod.mk.injEq] at h;obtain ⟨rfl,rfl,rfl⟩:=h;exact ⟨_,rfl,rfl,Tryz.sizeOf31,Tryz.isAgg31⟩
 |(i+4),h=>by simp at h⟩
instance sl179 :SlTy Tryz.prog 179 245:=⟨Tryz.runUnderlying179,Tryz.underlying179⟩
instance ty183 :Ty Tryz.prog 183 true 17 [.int .i64 0,.int .u8 0,.int .u64 0,.int .u64 0,.int .u64 0,.int .u64 0,.int .u64 0,.int .u64 0,.int .u64 0,.int .i64 0,.int .i64 0,.int .i64 0,.int .i64 0,.slice none 0 0,.slice none 0 0,.slice none 0 0,.slice none 0 0] 200:=⟨⟨Tryz.t183,_,by kernel_rfl,rfl,rfl,rfl,rfl⟩,Tryz.isAgg183,Tryz.sizeOf183,⟨_,Tryz.zeroValue183,rfl⟩,⟨_,Tryz.typeInfo183,rfl⟩⟩
instance ss183 :StTy Tryz.prog 183 [(0,1,false),(1,16,true)]:=⟨_,Tryz.runUnderlying183,rfl,λi off sz ag h=>match i,h with
 |0,h=>by simp only[List.getElem?_cons_zero,List.getElem?_cons_succ,Option.some.injEq,Prod.mk.injEq] at h;obtain ⟨rfl,rfl,rfl⟩:=h;exact ⟨_,rfl,rfl,Tryz.sizeOf3,Tryz.isAgg3⟩
 |1,h=>by simp only[List.getElem?_cons_zero,List.getElem?_cons_succ,Option.some.injEq,Prod.mk.injEq] at h;obtain ⟨rfl,rfl,rfl⟩:=h;exact ⟨_,rfl,rfl,Tryz.sizeOf37,Tryz.isAgg37⟩
 |(i+2),h=>by simp at h⟩
instance ty191 :Ty Tryz.prog 191 true 2 [.slice none 0 0,.int .i64 0] 32:=⟨⟨Tryz.t191,_,by kernel_rfl,rfl,rfl,rfl,rfl⟩,Tryz.isAgg191,Tryz.sizeOf191,⟨_,Tryz.zeroValue191,rfl⟩,⟨_,Tryz.typeInfo191,rfl⟩⟩
instance ss191 :StTy Tryz.prog 191 [(0,1,false),(1,1,false)]:=⟨_,Tryz.runUnderlying191,rfl,λi off sz ag h=>match i,h with
 |0,h=>by simp only[List.getElem?_cons_zero,List.getElem?_cons_succ,Option.some.injEq,Prod.mk.injEq] at h;obtain ⟨rfl,rfl,rfl⟩:=h;exact ⟨_,rfl,rfl,Tryz.sizeOf23,Tryz.isAgg23⟩
 |1,h=>by simp only[List.getElem?_cons_zero,List.getElem?_cons_succ,Option.some.injEq,Prod.mk.injEq] at h;obtain ⟨rfl,rfl,rfl⟩:=h;exact ⟨_,rfl,rfl,Tryz.sizeOf26,Tryz.isAgg26⟩
 |(i+2),h=>by simp at h⟩
instance ty197 :Ty Tryz.prog 197 false 1 [.pointer none] 8:=⟨⟨Tryz.t197,_,by kernel_rfl,rfl,rfl,rfl,rfl⟩,Tryz.isAgg197,Tryz.sizeOf197,⟨_,Tryz.zeroValue197,rfl⟩,⟨_,Tryz.typeInfo197,rfl⟩⟩
instance pt197 :PtrTy Tryz.prog 197 250:=⟨Tryz.runUnderlying197,Tryz.underlying197⟩
instance mt202 :MapTy Tryz.prog 202 31 4:=⟨Tryz.runUnderlying202,Tryz.underlying202⟩
instance sl209 :SlTy Tryz.prog 209 34:=⟨Tryz.runUnderlying209,Tryz.underlying209⟩
instance hu210 :HasUnd Tryz.prog 210:=⟨_,Tryz.runUnderlying210⟩
instance it210 :IntTy Tryz.prog 210 .u32:=⟨Tryz.runUnderlying210,Tryz.underlying210⟩
instance hu211 :HasUnd Tryz.prog 211:=⟨_,Tryz.runUnderlying211⟩
instance it211 :IntTy Tryz.prog 211 .u64:=⟨Tryz.runUnderlying211,Tryz.underlying211⟩
instance ty219 :Ty Tryz.prog 219 true 3 [.int .u64 0,.int .u64 0,.slice none 0 0] 40:=⟨⟨Tryz.t219,_,by kernel_rfl,rfl,rfl,rfl,rfl⟩,Tryz.isAgg219,Tryz.sizeOf219,⟨_,Tryz.zeroValue219,rfl⟩,⟨_,Tryz.typeInfo219,rfl⟩⟩
instance ss219 :StTy Tryz.prog 219 [(0,1,false),(1,1,false),(2,1,false)]:=⟨_,Tryz.runUnderlying219,rfl,λi off sz ag h=>match i,h with
 |0,h=>by simp only[List.getElem?_cons_zero,List.getElem?_cons_succ,Option.some.injEq,Prod.mk.injEq] at h;obtain ⟨rfl,rfl,rfl⟩:=h;exact ⟨_,rfl,rfl,Tryz.sizeOf31,Tryz.isAgg31⟩
 |1,h=>by simp only[List.getElem?_cons_zero,List.getElem?_cons_succ,Option.some.injEq,Prod.mk.injEq] at h;obtain ⟨rfl,rfl,rfl⟩:=h;exact ⟨_,rfl,rfl,Tryz.sizeOf31,Tryz.isAgg31⟩
 |2,h=>by simp only[List.getElem?_cons_zero,List.getElem?_cons_succ,Option.some.injEq,Prod.mk.injEq] at h;obtain ⟨rfl,rfl,rfl⟩:=h;exact ⟨_,rfl,rfl,Tryz.sizeOf34,Tryz.isAgg34⟩
 |(i+3),h=>by simp at h⟩
instance ty233 :Ty Tryz.prog 233 true 2 [.string ⟨#[]⟩,.int .i64 0] 24:=⟨⟨Tryz.t233,_,by kernel_rfl,rfl,rfl,rfl,rfl⟩,Tryz.isAgg233,Tryz.sizeOf233,⟨_,Tryz.zeroValue233,rfl⟩,⟨_,Tryz.typeInfo233,rfl⟩⟩
instance ss233 :StTy Tryz.prog 233 [(0,1,false),(1,1,false)]:=⟨_,Tryz.runUnderlying233,rfl,λi off sz ag h=>match i,h with
 |0,h=>by simp only[List.getElem?_cons_zero,List.getElem?_cons_succ,Option.some.injEq,Prod.mk.injEq] at h;obtain ⟨rfl,rfl,rfl⟩:=h;exact ⟨_,rfl,rfl,Tryz.sizeOf9,Tryz.isAgg9⟩
 |1,h=>by simp only[List.getElem?_cons_zero,List.getElem?_cons_succ,Option.some.injEq,Prod.mk.injEq] at h;obtain ⟨rfl,rfl,rfl⟩:=h;exact ⟨_,rfl,rfl,Tryz.sizeOf3,Tryz.isAgg3⟩
 |(i+2),h=>by simp at h⟩
instance ty242 :Ty Tryz.prog 242 true 2 [.int .u64 0,.int .u64 0] 16:=⟨⟨Tryz.t242,_,by kernel_rfl,rfl,rfl,rfl,rfl⟩,Tryz.isAgg242,Tryz.sizeOf242,⟨_,Tryz.zeroValue242,rfl⟩,⟨_,Tryz.typeInfo242,rfl⟩⟩
instance ss242 :StTy Tryz.prog 242 [(0,1,false),(1,1,false)]:=⟨_,Tryz.runUnderlying242,rfl,λi off sz ag h=>match i,h with
 |0,h=>by simp only[List.getElem?_cons_zero,List.getElem?_cons_succ,Option.some.injEq,Prod.mk.injEq] at h;obtain ⟨rfl,rfl,rfl⟩:=h;exact ⟨_,rfl,rfl,Tryz.sizeOf31,Tryz.isAgg31⟩
 |1,h=>by simp only[List.getElem?_cons_zero,List.getElem?_cons_succ,Option.some.injEq,Prod.mk.injEq] at h;obtain ⟨rfl,rfl,rfl⟩:=h;exact ⟨_,rfl,rfl,Tryz.sizeOf31,Tryz.isAgg31⟩
 |(i+2),h=>by simp at h⟩
instance ty245 :Ty Tryz.prog 245 true 2 [.int .u64 0,.int .u64 0] 16:=⟨⟨Tryz.t245,_,by kernel_rfl,rfl,rfl,rfl,rfl⟩,Tryz.isAgg245,Tryz.sizeOf245,⟨_,Tryz.zeroValue245,rfl⟩,⟨_,Tryz.typeInfo245,rfl⟩⟩
instance at245 :ArrTy Tryz.prog 245 2 31:=⟨Tryz.runUnderlying245,Tryz.underlying245⟩
instance ty250 :Ty Tryz.prog 250 true 1 [.slice none 0 0] 24:=⟨⟨Tryz.t250,_,by kernel_rfl,rfl,rfl,rfl,rfl⟩,Tryz.isAgg250,Tryz.sizeOf250,⟨_,Tryz.zeroValue250,rfl⟩,⟨_,Tryz.typeInfo250,rfl⟩⟩
instance ss250 :StTy Tryz.prog 250 [(0,1,false)]:=⟨_,Tryz.runUnderlying250,rfl,λi off sz ag h=>match i,h with
 |0,h=>by simp only[List.getElem?_cons_zero,List.getElem?_cons_succ,Option.some.injEq,Prod.mk.injEq] at h;obtain ⟨rfl,rfl,rfl⟩:=h;exact ⟨_,rfl,rfl,Tryz.sizeOf92,Tryz.isAgg92⟩
 |(i+1),h=>by simp at h⟩
instance at265 :ArrTy Tryz.prog 265 23 233:=⟨Tryz.runUnderlying265,Tryz.underlying265⟩
instance ty266 :Ty Tryz.prog 266 true 15 [.bool false,.bool false,.bool false,.bool false,.bool false,.bool false,.bool false,.bool false,.bool false,.bool false,.bool false,.bool false,.bool false,.bool false,.bool false] 15:=⟨⟨Tryz.t266,_,by kernel_rfl,rfl,rfl,rfl,rfl⟩,Tryz.isAgg266,Tryz.sizeOf266,⟨_,Tryz.zeroValue266,rfl⟩,⟨_,Tryz.typeInfo266,rfl⟩⟩
instance at266 :ArrTy Tryz.prog 266 15 4:=⟨Tryz.runUnderlying266,Tryz.underlying266⟩
instance ty294 :Ty Tryz.prog 294 false 1 [.int .u64 0] 8:=⟨⟨Tryz.t294,_,by kernel_rfl,rfl,rfl,rfl,rfl⟩,Tryz.isAgg294,Tryz.sizeOf294,⟨_,Tryz.zeroValue294,rfl⟩,⟨_,Tryz.typeInfo294,rfl⟩⟩
instance it294 :IntTy Tryz.prog 294 .u64:=⟨Tryz.runUnderlying294,Tryz.underlying294⟩
instance en4 :Enters Tryz.prog 4:=⟨Tryz.call4⟩
instance en5 :Enters Tryz.prog 5:=⟨Tryz.call5⟩
instance en6 :Enters Tryz.prog 6:=⟨Tryz.call6⟩
instance en7 :Enters Tryz.prog 7:=⟨Tryz.call7⟩
instance en8 :Enters Tryz.prog 8:=⟨Tryz.call8⟩
instance en9 :Enters Tryz.prog 9:=⟨Tryz.call9⟩
instance en10 :Enters Tryz.prog 10:=⟨Tryz.call10⟩
instance en11 :Enters Tryz.prog 11:=⟨Tryz.call11⟩
instance en12 :Enters Tryz.prog 12:=⟨Tryz.call12⟩
instance en13 :Enters Tryz.prog 13:=⟨Tryz.call13⟩
instance en14 :Enters Tryz.prog 14:=⟨Tryz.call14⟩
instance en15 :Enters Tryz.prog 15:=⟨Tryz.call15⟩
instance en16 :Enters Tryz.prog 16:=⟨Tryz.call16⟩
instance en17 :Enters Tryz.prog 17:=⟨Tryz.call17⟩
instance en18 :Enters Tryz.prog 18:=⟨Tryz.call18⟩
instance en19 :Enters Tryz.prog 19:=⟨Tryz.call19⟩
instance en20 :Enters Tryz.prog 20:=⟨Tryz.call20⟩
instance en21 :Enters Tryz.prog 21:=⟨Tryz.call21⟩
instance en22 :Enters Tryz.prog 22:=⟨Tryz.call22⟩
instance en23 :Enters Tryz.prog 23:=⟨Tryz.call23⟩
instance en24 :Enters Tryz.prog 24:=⟨Tryz.call24⟩
instance en25 :Enters Tryz.prog 25:=⟨Tryz.call25⟩
instance en26 :Enters Tryz.prog 26:=⟨Tryz.call26⟩
instance en27 :Enters Tryz.prog 27:=⟨Tryz.call27⟩
instance en28 :Enters Tryz.prog 28:=⟨Tryz.call28⟩
instance en29 :Enters Tryz.prog 29:=⟨Tryz.call29⟩
instance en30 :Enters Tryz.prog 30:=⟨Tryz.call30⟩
instance en31 :Enters Tryz.prog 31:=⟨Tryz.call31⟩
instance en32 :Enters Tryz.prog 32:=⟨Tryz.call32⟩
instance en33 :Enters Tryz.prog 33:=⟨Tryz.call33⟩
instance en34 :Enters Tryz.prog 34:=⟨Tryz.call34⟩
instance en35 :Enters Tryz.prog 35:=⟨Tryz.call35⟩
instance en36 :Enters Tryz.prog 36:=⟨Tryz.call36⟩
instance en37 :Enters Tryz.prog 37:=⟨Tryz.call37⟩
instance en38 :Enters Tryz.prog 38:=⟨Tryz.call38⟩
instance en39 :Enters Tryz.prog 39:=⟨Tryz.call39⟩
instance en40 :Enters Tryz.prog 40:=⟨Tryz.call40⟩
instance en41 :Enters Tryz.prog 41:=⟨Tryz.call41⟩
instance en42 :Enters Tryz.prog 42:=⟨Tryz.call42⟩
instance en43 :Enters Tryz.prog 43:=⟨Tryz.call43⟩
instance en44 :Enters Tryz.prog 44:=⟨Tryz.call44⟩
instance en45 :Enters Tryz.prog 45:=⟨Tryz.call45⟩
instance en46 :Enters Tryz.prog 46:=⟨Tryz.call46⟩
instance en47 :Enters Tryz.prog 47:=⟨Tryz.call47⟩
instance en48 :Enters Tryz.prog 48:=⟨Tryz.call48⟩
instance en49 :Enters Tryz.prog 49:=⟨Tryz.call49⟩
instance en50 :Enters Tryz.prog 50:=⟨Tryz.call50⟩
instance en51 :Enters Tryz.prog 51:=⟨Tryz.call51⟩
instance en52 :Enters Tryz.prog 52:=⟨Tryz.call52⟩
instance en53 :Enters Tryz.prog 53:=⟨Tryz.call53⟩
instance en54 :Enters Tryz.prog 54:=⟨Tryz.call54⟩
instance en55 :Enters Tryz.prog 55:=⟨Tryz.call55⟩
instance en56 :Enters Tryz.prog 56:=⟨Tryz.call56⟩
instance en57 :Enters Tryz.prog 57:=⟨Tryz.call57⟩
instance en58 :Enters Tryz.prog 58:=⟨Tryz.call58⟩
instance en59 :Enters Tryz.prog 59:=⟨Tryz.call59⟩
instance en60 :Enters Tryz.prog 60:=⟨Tryz.call60⟩
instance en61 :Enters Tryz.prog 61:=⟨Tryz.call61⟩
instance en62 :Enters Tryz.prog 62:=⟨Tryz.call62⟩
instance en63 :Enters Tryz.prog 63:=⟨Tryz.call63⟩
instance en64 :Enters Tryz.prog 64:=⟨Tryz.call64⟩
instance en65 :Enters Tryz.prog 65:=⟨Tryz.call65⟩
instance en66 :Enters Tryz.prog 66:=⟨Tryz.call66⟩
instance en67 :Enters Tryz.prog 67:=⟨Tryz.call67⟩
instance en68 :Enters Tryz.prog 68:=⟨Tryz.call68⟩
instance en69 :Enters Tryz.prog 69:=⟨Tryz.call69⟩
instance en70 :Enters Tryz.prog 70:=⟨Tryz.call70⟩
instance en71 :Enters Tryz.prog 71:=⟨Tryz.call71⟩
instance en72 :Enters Tryz.prog 72:=⟨Tryz.call72⟩
instance en73 :Enters Tryz.prog 73:=⟨Tryz.call73⟩
instance en74 :Enters Tryz.prog 74:=⟨Tryz.call74⟩
instance en75 :Enters Tryz.prog 75:=⟨Tryz.call75⟩
instance en76 :Enters Tryz.prog 76:=⟨Tryz.call76⟩
instance en77 :Enters Tryz.prog 77:=⟨Tryz.call77⟩
instance en78 :Enters Tryz.prog 78:=⟨Tryz.call78⟩
instance en79 :Enters Tryz.prog 79:=⟨Tryz.call79⟩
instance en80 :Enters Tryz.prog 80:=⟨Tryz.call80⟩
instance en81 :Enters Tryz.prog 81:=⟨Tryz.call81⟩
instance en82 :Enters Tryz.prog 82:=⟨Tryz.call82⟩
instance en83 :Enters Tryz.prog 83:=⟨Tryz.call83⟩
instance en84 :Enters Tryz.prog 84:=⟨Tryz.call84⟩
instance en85 :Enters Tryz.prog 85:=⟨Tryz.call85⟩
instance en86 :Enters Tryz.prog 86:=⟨Tryz.call86⟩
instance en87 :Enters Tryz.prog 87:=⟨Tryz.call87⟩
instance en88 :Enters Tryz.prog 88:=⟨Tryz.call88⟩
instance en89 :Enters Tryz.prog 89:=⟨Tryz.call89⟩
instance en90 :Enters Tryz.prog 90:=⟨Tryz.call90⟩
instance en91 :Enters Tryz.prog 91:=⟨Tryz.call91⟩
instance en92 :Enters Tryz.prog 92:=⟨Tryz.call92⟩
instance en93 :Enters Tryz.prog 93:=⟨Tryz.call93⟩
instance en94 :Enters Tryz.prog 94:=⟨Tryz.call94⟩
instance en95 :Enters Tryz.prog 95:=⟨Tryz.call95⟩
instance en96 :Enters Tryz.prog 96:=⟨Tryz.call96⟩
instance en97 :Enters Tryz.prog 97:=⟨Tryz.call97⟩
instance en98 :Enters Tryz.prog 98:=⟨Tryz.call98⟩
instance en99 :Enters Tryz.prog 99:=⟨Tryz.call99⟩
instance en100 :Enters Tryz.prog 100:=⟨Tryz.call100⟩
instance en101 :Enters Tryz.prog 101:=⟨Tryz.call101⟩
instance en102 :Enters Tryz.prog 102:=⟨Tryz.call102⟩
instance en103 :Enters Tryz.prog 103:=⟨Tryz.call103⟩
instance en104 :Enters Tryz.prog 104:=⟨Tryz.call104⟩
instance en105 :Enters Tryz.prog 105:=⟨Tryz.call105⟩
instance en106 :Enters Tryz.prog 106:=⟨Tryz.call106⟩
instance en107 :Enters Tryz.prog 107:=⟨Tryz.call107⟩
instance en108 :Enters Tryz.prog 108:=⟨Tryz.call108⟩
instance en109 :Enters Tryz.prog 109:=⟨Tryz.call109⟩
instance en110 :Enters Tryz.prog 110:=⟨Tryz.call110⟩
instance en111 :Enters Tryz.prog 111:=⟨Tryz.call111⟩
instance en112 :Enters Tryz.prog 112:=⟨Tryz.call112⟩
instance en113 :Enters Tryz.prog 113:=⟨Tryz.call113⟩
instance en114 :Enters Tryz.prog 114:=⟨Tryz.call114⟩
instance en115 :Enters Tryz.prog 115:=⟨Tryz.call115⟩
instance en116 :Enters Tryz.prog 116:=⟨Tryz.call116⟩
instance en117 :Enters Tryz.prog 117:=⟨Tryz.call117⟩
instance en118 :Enters Tryz.prog 118:=⟨Tryz.call118⟩
instance en119 :Enters Tryz.prog 119:=⟨Tryz.call119⟩
instance en120 :Enters Tryz.prog 120:=⟨Tryz.call120⟩
instance en121 :Enters Tryz.prog 121:=⟨Tryz.call121⟩
instance en122 :Enters Tryz.prog 122:=⟨Tryz.call122⟩
instance en123 :Enters Tryz.prog 123:=⟨Tryz.call123⟩
instance en124 :Enters Tryz.prog 124:=⟨Tryz.call124⟩
instance en125 :Enters Tryz.prog 125:=⟨Tryz.call125⟩
instance en126 :Enters Tryz.prog 126:=⟨Tryz.call126⟩
instance en127 :Enters Tryz.prog 127:=⟨Tryz.call127⟩
instance en128 :Enters Tryz.prog 128:=⟨Tryz.call128⟩
instance en129 :Enters Tryz.prog 129:=⟨Tryz.call129⟩
instance en130 :Enters Tryz.prog 130:=⟨Tryz.call130⟩
instance en131 :Enters Tryz.prog 131:=⟨Tryz.call131⟩
instance en132 :Enters Tryz.prog 132:=⟨Tryz.call132⟩
instance en133 :Enters Tryz.prog 133:=⟨Tryz.call133⟩
instance en134 :Enters Tryz.prog 134:=⟨Tryz.call134⟩
instance en135 :Enters Tryz.prog 135:=⟨Tryz.call135⟩
instance en136 :Enters Tryz.prog 136:=⟨Tryz.call136⟩
instance en137 :Enters Tryz.prog 137:=⟨Tryz.call137⟩
instance en138 :Enters Tryz.prog 138:=⟨Tryz.call138⟩
instance en139 :Enters Tryz.prog 139:=⟨Tryz.call139⟩
instance en140 :Enters Tryz.prog 140:=⟨Tryz.call140⟩
instance en141 :Enters Tryz.prog 141:=⟨Tryz.call141⟩
instance en142 :Enters Tryz.prog 142:=⟨Tryz.call142⟩
instance en143 :Enters Tryz.prog 143:=⟨Tryz.call143⟩
instance en144 :Enters Tryz.prog 144:=⟨Tryz.call144⟩
instance en145 :Enters Tryz.prog 145:=⟨Tryz.call145⟩
instance en146 :Enters Tryz.prog 146:=⟨Tryz.call146⟩
instance en147 :Enters Tryz.prog 147:=⟨Tryz.call147⟩
instance en148 :Enters Tryz.prog 148:=⟨Tryz.call148⟩
instance en149 :Enters Tryz.prog 149:=⟨Tryz.call149⟩
instance en150 :Enters Tryz.prog 150:=⟨Tryz.call150⟩
instance en151 :Enters Tryz.prog 151:=⟨Tryz.call151⟩
instance en152 :Enters Tryz.prog 152:=⟨Tryz.call152⟩
instance en153 :Enters Tryz.prog 153:=⟨Tryz.call153⟩
instance en154 :Enters Tryz.prog 154:=⟨Tryz.call154⟩
instance en155 :Enters Tryz.prog 155:=⟨Tryz.call155⟩
instance en156 :Enters Tryz.prog 156:=⟨Tryz.call156⟩
instance en157 :Enters Tryz.prog 157:=⟨Tryz.call157⟩
instance en158 :Enters Tryz.prog 158:=⟨Tryz.call158⟩
instance en159 :Enters Tryz.prog 159:=⟨Tryz.call159⟩
instance en160 :Enters Tryz.prog 160:=⟨Tryz.call160⟩
instance en161 :Enters Tryz.prog 161:=⟨Tryz.call161⟩
instance en162 :Enters Tryz.prog 162:=⟨Tryz.call162⟩
instance en163 :Enters Tryz.prog 163:=⟨Tryz.call163⟩
instance en164 :Enters Tryz.prog 164:=⟨Tryz.call164⟩
instance en165 :Enters Tryz.prog 165:=⟨Tryz.call165⟩
instance en166 :Enters Tryz.prog 166:=⟨Tryz.call166⟩
instance en167 :Enters Tryz.prog 167:=⟨Tryz.call167⟩
instance en168 :Enters Tryz.prog 168:=⟨Tryz.call168⟩
instance en169 :Enters Tryz.prog 169:=⟨Tryz.call169⟩
instance en170 :Enters Tryz.prog 170:=⟨Tryz.call170⟩
instance en171 :Enters Tryz.prog 171:=⟨Tryz.call171⟩
instance en172 :Enters Tryz.prog 172:=⟨Tryz.call172⟩
instance en173 :Enters Tryz.prog 173:=⟨Tryz.call173⟩
instance en174 :Enters Tryz.prog 174:=⟨Tryz.call174⟩
instance en175 :Enters Tryz.prog 175:=⟨Tryz.call175⟩
instance en176 :Enters Tryz.prog 176:=⟨Tryz.call176⟩
instance en177 :Enters Tryz.prog 177:=⟨Tryz.call177⟩
instance en178 :Enters Tryz.prog 178:=⟨Tryz.call178⟩
instance en179 :Enters Tryz.prog 179:=⟨Tryz.call179⟩
instance en180 :Enters Tryz.prog 180:=⟨Tryz.call180⟩
instance en181 :Enters Tryz.prog 181:=⟨Tryz.call181⟩
instance en182 :Enters Tryz.prog 182:=⟨Tryz.call182⟩
instance en183 :Enters Tryz.prog 183:=⟨Tryz.call183⟩
instance en184 :Enters Tryz.prog 184:=⟨Tryz.call184⟩
instance en185 :Enters Tryz.prog 185:=⟨Tryz.call185⟩
instance en186 :Enters Tryz.prog 186:=⟨Tryz.call186⟩
instance en187 :Enters Tryz.prog 187:=⟨Tryz.call187⟩
instance en189 :Enters Tryz.prog 189:=⟨Tryz.call189⟩
instance en190 :Enters Tryz.prog 190:=⟨Tryz.call190⟩
instance en191 :Enters Tryz.prog 191:=⟨Tryz.call191⟩
instance en192 :Enters Tryz.prog 192:=⟨Tryz.call192⟩
instance en193 :Enters Tryz.prog 193:=⟨Tryz.call193⟩
instance en194 :Enters Tryz.prog 194:=⟨Tryz.call194⟩
instance en195 :Enters Tryz.prog 195:=⟨Tryz.call195⟩
instance en196 :Enters Tryz.prog 196:=⟨Tryz.call196⟩
end Go.Proofs.YtjlgabojhnnbaaaGreatDoor
namespace Go.Proofs.YtjlgabojhnnbaaaGreatDoor
open Go Go.SX
attribute [local irreducible] swp opsS thenS blockS retS CallsS St Ent YieldS anyS drawS
attribute [local irreducible] opsI
abbrev U64 :Int→Value:=Value.int .u64
def apRec (fn:FuncId)(tmps:Array Value)(ps:Array Tmp)(assign body:Code)(D:Nat)(st:LoopState)(pe:Option Code):Loop:={state:=st,pending:=pe,fn,tmps,params:=ps,assign,body,defers:=D}
def apJ (rec:Loop)(l D bs:Nat)(pre:List Int):HP:=exH λx:OA×Nat=>allH [pt l (.loop rec),pt D (.deferred (some [])),pt bs (cl [.slice x.1 pre.length x.2] 90),slO 31 1 x.1 pre.length x.2 (pre.map U64)]
theorem apJ_shut {rec:Loop}{l D bs:Nat}{pre:List Int}{a:OA}{c:Nat}{L:HL}:Ent (pt l (.loop rec)::pt D (.deferred (some []))::pt bs (cl [.slice a pre.length c] 90)::slO 31 1 a pre.length c (pre.map U64)::L) (apJ rec l D bs pre::L):=
 Ent.trans (Ent.shut_all (L:=[_,_,_,_])) (Ent.shut_ex (P:=λx:OA×Nat=>allH [pt l (.loop rec),pt D (.deferred (some [])),pt bs (cl [.slice x.1 pre.length x.2] 90),slO 31 1 x.1 pre.length x.2 (pre.map U64)]) (a,c))
theorem apJ_open {rec:Loop}{l D bs:Nat}{pre:List Int}{w:World}{L:HL}(H:St w (apJ rec l D bs pre::L)):∃a c,St w (pt l (.loop rec)::pt D (.deferred (some []))::pt bs (cl [.slice a pre.length c] 90)::slO 31 1 a pre.length c (pre.map U64)::L):=by
 obtain ⟨x,H⟩:=St.open_ex H;exact ⟨x.1,x.2,St.ent (Ent.open_all (L:=[_,_,_,_])) H⟩
theorem St.obj {w:World}{l:Nat}{o o':Obj}{L:HL}(H:St w (pt l o::L)):St (w.putObj l o') (pt l o'::L):=by
 have hl:=St.pt_read H;have hlt:l<w.heap.size:=(Array.getElem?_eq_some_iff.1 hl).1;exact St.pt_write H (World.putObj_heap_same hlt) (λk hk=>World.putObj_heap_other hk) rfl
theorem apRound {fn:FuncId}{tm:Array Value}{l D bs:Nat}{pre:List Int}{x:Int}{assign body:Code}(htm:tm.size=13)(hbs:tm[2]? =some (.pointer (some ⟨bs,0,none⟩)))(hN:pre.length<17592186044416)
  (ha:assign=.region 2 ([⟨some 5,.assign (.tmp 7),31, "iter.go:51",#[],none⟩]:List Oper).toArray false)
  (hb : ∃ l1 id,body = .block 1 (.region id (l1 : List Oper).toArray false) ∧ okOps 13 l1 = true ∧
   ∀(v:Int) (a:OA) (c k:Nat) (cs:List Value),k<17592186044416→opsI Tryz.prog 13 (some l) l1 l1 (thenS (λf L=>∃a' c',L=[pt bs (cl [.slice a' (k+1) c'] 90),slO 31 1 a' (k+1) c' (cs++[U64 v])]) (λ_ _ _=>False)) (updAll [(2,.pointer (some ⟨bs,0,none⟩)),(5,U64 v)]) [pt bs (cl [.slice a k c] 90),slO 31 1 a k c cs]):
  RoundS Tryz.prog l (U64 x) [apJ (apRec fn tm #[7] assign body D .ready none) l D bs pre] [apJ (apRec fn tm #[7] assign body D .ready none) l D bs (pre++[x])]:=by
 intro F w t;obtain ⟨a,c,t⟩:=apJ_open (L:=F) (by simpa using t);have hl:=St.pt_read t;obtain ⟨l1,id,hbd,hok1,hb⟩:=hb;refine ⟨fn,tm.setIfInBounds 7 (U64 x),_,_,by simpa[apRec] using run_yield (P:=Tryz.prog) (args:= #[U64 x]) hl rfl,roundIn_of_wpIn trivial ?_⟩;have s0:Sim 13 {tmps:=tm.setIfInBounds 7 (U64 x),defers:=[]} (updAll [(2,.pointer (some ⟨bs,0,none⟩)),(7,U64 x)]):=by
  refine ⟨rfl,by simp[htm],λi v e=> ?_⟩;simp only[updAll,upd,e0] at e
  by_cases h2:i=2
  ·subst h2
   cases e
   rw[Array.getD_eq_getD_getElem?,Array.getElem?_setIfInBounds_ne zo,hbs];rfl
  ·by_cases h7:i=7
   ·subst h7
    cases e
    simp[htm]
   ·rw[beq_ne h2,beq_ne h7] at e;cases e
 have hwa:∀Q a w,(Code.region 2 ([⟨some 5,.assign (.tmp 7),31, "iter.go:51",#[],none⟩]:List Oper).toArray false).wpIn (WF (some l)) 0 Tryz.prog Q a w→assign.wpIn (WF (some l)) 0 Tryz.prog Q a w:=λQ a w h=>by rw[ha];exact h
 refine hwa _ _ _ (wpIn_round (r:=some l) (n:=13) (L:=[pt l (.loop (apRec fn tm #[7] assign body D .ready none)),pt D (.deferred (some [])),pt bs (cl [.slice a pre.length c] 90),slO 31 1 a pre.length c (pre.map U64)]) (F:=F) (K:=λf L=>f 2=some (.pointer (some ⟨bs,0,none⟩))∧f 5=some (U64 x)∧L=[pt l (.loop (apRec fn tm #[7] assign body D .ready none)),pt D (.deferred (some [])),pt bs (cl [.slice a pre.length c] 90),slO 31 1 a pre.length c (pre.map U64)]) ?_ rfl s0 t ?_)
 ·refine opsI_one (λ_ h=>by cases h) rfl ?_
  repeat (first|(refine GQ.y ?_;refine Q.y ?_)|refine Q.go ?_|(refine GQ.g ?_;refine Q.gq ?_)|(refine GQ.s ?_;refine Q.st ?_))
  exact opsI_nil (N.tn ⟨rfl,rfl,rfl⟩)
 rintro f L a1 w1 ⟨h2,h5,rfl⟩ s1 t1;refine ⟨_,run_beginRound (St.pt_read t1) rfl,?_⟩;have t2:=St.obj (o':=.loop {(apRec fn tm #[7] assign body D .ready none) with state:=.busy}) (L:=[pt D (.deferred (some [])),pt bs (cl [.slice a pre.length c] 90),slO 31 1 a pre.length c (pre.map U64)]++F) t1;have t3:St _ ([pt bs (cl [.slice a pre.length c] 90),slO 31 1 a pre.length c (pre.map U64)]++(pt l (.loop {(apRec fn tm #[7] assign body D .ready none) with state:=.busy})::pt D (.deferred (some []))::F)):=
  St.rot2 t2
 have hwp:∀Q a w,(Code.block 1 (.region id l1.toArray false)).wpIn (WF (some l)) 0 Tryz.prog Q a w→body.wpIn (WF (some l)) 0 Tryz.prog Q a w:=λQ a w h=>by rw[hbd];exact h
 refine hwp _ _ _ (wpIn_block (wpIn_round (r:=some l) (n:=13) (F:=_) (hb x a c pre.length (pre.map U64) hN) hok1 (s1.weaken (updAll_le ⟨h2,h5,trivial⟩)) t3 ?_));rintro f L a2 w2 ⟨a',c',rfl⟩ s2 t4;have t5:St w2 (pt l (.loop {(apRec fn tm #[7] assign body D .ready none) with state:=.busy})::pt D (.deferred (some []))::([pt bs (cl [.slice a' (pre.length+1) c'] 90),slO 31 1 a' (pre.length+1) c' (pre.map U64++[U64 x])]++F)):=
  St.rot2 t4
 refine ⟨_,_,run_endRound none (St.pt_read t5),rfl,?_⟩;have t6:=St.obj (o':=.loop (apRec fn tm #[7] assign body D .ready none)) t5;have e1:pre.length+1=(pre++[x]).length:=by simp
 have e2:pre.map U64++[U64 x]=(pre++[x]).map U64:=by simp
 rw[e1,e2] at t6;have t7:=St.ent (apJ_shut (L:=F)) t6
 simpa[apRec] using t7
theorem AppendSeq_spec (gf:FuncId)(lb:List Value)[he:Enters Tryz.prog gf](Sp:List Int→Prop)(A A':HL)(hseq:SeqS Tryz.prog gf lb U64 17592186044416 Sp A A'):
  CallsS Tryz.prog 170 [.slice none 0 0,.func (.func gf) #[] lb.toArray] A (λv L'=>∃ks a c,Sp ks∧v=.slice a ks.length c∧L'=slO 31 1 a ks.length c (ks.map U64)::A'):=by
 refine CallsS.mk' λF w t=> ?_
 refine (callsIn_wide (n:=1)).1 (callsIn_of_wp_marks Tryz.func170 rfl trivial ?_);have s0:Sim 13 {tmps:= #[.slice none 0 0,.func (.func gf) #[] lb.toArray]++Array.replicate 11 undef,defers:=[]} (argEnv [.slice none 0 0,.func (.func gf) #[] lb.toArray] 0):=by
  refine ⟨rfl,by simp,λi v e=> ?_⟩;obtain ⟨_,h2⟩:=argEnv_at _ 0 i v e;simp only[Nat.sub_zero] at h2;have hi:i<2:=(List.getElem?_eq_some_iff.1 h2).1
  match i,hi,h2 with
  |0,_,h2=>simpa using h2
  |1,_,h2=>simpa using h2
 refine wpIn_of_swp (n:=13) (F:=F) (K:=λf L=>∃bs,f 1=some (.func (.func gf) #[] lb.toArray)∧f 2=some (.pointer (some ⟨bs,0,none⟩))∧L=pt bs (cl [.slice none 0 0] 90)::A) ?_ rfl s0 t ?_
 ·refine Q.r ?_;(repeat (intro b1;refine Q.r ?_))
  exact ⟨_,rfl,rfl,rfl⟩
 rintro f L a1 w1 ⟨bs,h1,h2,rfl⟩ s1 t1;refine wpIn_seq ?_;refine wpIn_of_swp (n:=13) (F:=F) (K:=λf L=>f 6=some (.func (.func gf) #[] lb.toArray)∧f 2=some (.pointer (some ⟨bs,0,none⟩))∧L=pt bs (cl [.slice none 0 0] 90)::A) (f:=updAll [(1,.func (.func gf) #[] lb.toArray),(2,.pointer (some ⟨bs,0,none⟩))]) ?_ rfl (s1.weaken (updAll_le ⟨h1,h2,trivial⟩)) t1 ?_
 ·refine Q.r ?_
  exact ⟨rfl,rfl,rfl⟩
 rintro f L a2 w2 ⟨h6,h2,rfl⟩ s2 t2;obtain ⟨tm,htm⟩:∃tm,tm=a2.tmps:=⟨_,rfl⟩;have hsz:tm.size=13:=by rw[htm];exact s2.size
 have h2':tm[2]? =some (.pointer (some ⟨bs,0,none⟩)):=by
  have:=s2.at_ 2 _ h2;rw[←htm,Array.getD_eq_getD_getElem?] at this;have hlt:2<tm.size:=by omega
  rw[Array.getElem?_eq_getElem hlt] at this ⊢
  simpa using this
 have hev:a2.eval (.tmp 6)=.func (.func gf) #[] lb.toArray:=s2.eval (x:=.tmp 6) h6;refine wpIn_block (wpIn_rangeF hev λfn=> ?_);have t3:=St.pt_new (w':=w2.alloc (.deferred (some []))) t2 rfl rfl;generalize hr0:({state:=.ready,pending:=none,fn,tmps:=a2.tmps,params:= #[7],assign:=_,body:=_,defers:=w2.heap.size}:Loop)=rec;have t4:=St.pt_new (w':=(w2.alloc (.deferred (some []))).alloc (.loop rec)) t3 rfl rfl;obtain ⟨As,hA⟩:∃A,A=rec.assign:=⟨_,rfl⟩;obtain ⟨Bs,hB⟩:∃B,B=rec.body:=⟨_,rfl⟩;have hrec:rec=apRec fn tm #[7] As Bs w2.heap.size .ready none:=by rw[hA,hB,htm,←hr0];rfl
 have hA':As=.region 2 ([⟨some 5,.assign (.tmp 7),31, "iter.go:51",#[],none⟩]:List Oper).toArray false:=by rw[hA,←hr0]
 have hB':∃l1 id,Bs=.block 1 (.region id (l1:List Oper).toArray false)∧okOps 13 l1=true∧
   ∀(v:Int) (a:OA) (c k:Nat) (cs:List Value),k<17592186044416→opsI Tryz.prog 13 (some (w2.heap.size+1)) l1 l1 (thenS (λf L=>∃a' c',L=[pt bs (cl [.slice a' (k+1) c'] 90),slO 31 1 a' (k+1) c' (cs++[U64 v])]) (λ_ _ _=>False)) (updAll [(2,.pointer (some ⟨bs,0,none⟩)),(5,U64 v)]) [pt bs (cl [.slice a k c] 90),slO 31 1 a k c cs]:=by
  refine ⟨_,3,by rw[hB,←hr0],rfl,λv a c k cs hk=> ?_⟩;refine opsI_one (λ_ h=>by cases h) rfl ?_;refine Q.r ?_;refine opsI_one (λ_ h=>by cases h) rfl ?_;refine Q.r ?_;refine opsI_one (λ_ h=>by cases h) rfl ?_;refine Q.r ?_;(repeat (intro b1;refine Q.r ?_));refine opsI_one (λ_ h=>by cases h) rfl ?_;refine S.app rfl rfl (SrcS.sl RdC.row zr zr) zr zo zo (λa' c'=> ?_);refine Q.r ?_;refine opsI_one (λ_ h=>by cases h) rfl ?_;refine Q.r ?_;exact opsI_ent (Ent.drop (Ent.refl _)) (opsI_nil (N.tn ⟨a',c',rfl⟩))
 clear hA hB;subst hrec;clear hr0;have hcall:=hseq (w2.heap.size+1) (apJ (apRec fn tm #[7] As Bs w2.heap.size .ready none) (w2.heap.size+1) w2.heap.size bs) (λpre x hp=>apRound hsz h2' hp hA' hB');have hsz1:(w2.alloc (.deferred (some []))).heap.size=w2.heap.size+1:=by simp
 rw[hsz1] at t4;have t5:=St.ent (apJ_shut (pre:=[]) (L:=A++F)) (St.ent (Ent.cons (Ent.cons (Ent.cons slO_nil))) t4);refine (CallsS.run hcall t5).mono ?_;rintro e w3 ⟨v,L',rfl,t6,ks,hks,rfl⟩;obtain ⟨a,c,t7⟩:=apJ_open (L:=A'++F) t6;refine ⟨v,_,rfl,run_endLoop (St.pt_read t7) (by simp[apRec]),?_⟩;have t8:=St.obj (o':=.loop {apRec fn tm #[7] As Bs w2.heap.size .ready none with state:=.exhausted}) t7;have t9:=t8.tail;generalize w3.putObj (w2.heap.size+1) (.loop {apRec fn tm #[7] As Bs w2.heap.size .ready none with state:=.exhausted})=w4 at t9;have hD:=St.pt_read t9;have hcell:=St.pt_read t9.tail;simp only[Exit.inBlock,Exit.then];have hload:(Instr.loadAt 90 (.pointer (some ⟨bs,0,none⟩))).run Tryz.prog w4=.ok (.slice a ks.length c) w4:=run_loadVar1 (P:=Tryz.prog) (b:=bs) (o:=0) (by simp[World.cell?,hcell,cl]);have hd0:a2.tmps.getD 2 undef=.pointer (some ⟨bs,0,none⟩):=s2.at_ 2 _ h2;have hd1:a2.tmps.size=13:=s2.size;have hd2:a2.defers=[]:=s2.defers;refine wpIn_seq (wpIn_region_lit ?_);refine wpListIn_plain rfl λK hK=>⟨λ_ _=>trivial,?_⟩
 rw[Oper.semAt_eq _ _ _ (λ_ h=>by cases h)];simp only[execOp,Act.eval,hd0,Sem.run_bind,hload,Result.andThen_ok,Sem.run_pure];refine hK _ _ (wpListIn_plain rfl λK' hK'=>⟨λ_ _=>trivial,?_⟩);rw[Oper.semAt_eq _ _ _ (λ_ h=>by cases h)];simp only[execOp,Act.eval,Sem.run_pure];refine hK' _ _ (wpListIn_nil (wpIn_ret ?_));refine ⟨by simp,.inl ⟨_,_,rfl,run_takeDeferred hD,?_⟩⟩;rw[hd2];refine ⟨_,results_tmp rfl _ _ _,_,slO 31 1 a ks.length c (ks.map U64)::A',?_,(St.obj (o':=.deferred none) t9).tail.tail,ks,a,c,hks,rfl,rfl⟩
 simp[Act.put,hd1]
theorem Collect_spec (gf:FuncId)(lb:List Value)[he:Enters Tryz.prog gf](Sp:List Int→Prop)(A A':HL)(hseq:SeqS Tryz.prog gf lb U64 17592186044416 Sp A A'):
  CallsS Tryz.prog 148 [.func (.func gf) #[] lb.toArray] A (λv L'=>∃ks a c,Sp ks∧v=.slice a ks.length c∧L'=slO 31 1 a ks.length c (ks.map U64)::A'):=by
 refine CallsS.of_body Tryz.func148 rfl rfl rfl ?_;refine Q.r ?_;refine S.cr rfl (AppendSeq_spec gf lb Sp A A' hseq) ?_;rintro _ _ ⟨ks,a,c,hks,rfl,rfl⟩;refine Q.r ?_;exact N.t rfl (Ent.refl _) ⟨ks,a,c,hks,rfl,rfl⟩
end Go.Proofs.YtjlgabojhnnbaaaGreatDoor
namespace Go.Proofs.YtjlgabojhnnbaaaGreatDoor
open Go Go.SX
attribute [local irreducible] swp opsS thenS blockS retS CallsS St Ent YieldS anyS drawS
abbrev I32 :Int→Value:=Value.int .i32
abbrev cI (z:Int):List Value:=[I32 z]
abbrev cU (z:Int):List Value:=[U64 z]
structure OV where
 id:Int
 a:OA
 c:Nat
 vec:List Int
abbrev OV.cells (o:OV):List Value:=[.int .u64 o.id,.slice o.a o.vec.length o.c]
abbrev OV.val (o:OV):Value:=.agg #[.int .u64 o.id,.slice o.a o.vec.length o.c]
abbrev OV.abs (o:OV):Int×List Int:=(o.id,o.vec)
theorem flat_I (xs:List Int):xs.flatMap cI=xs.map I32:=by induction xs with
 |nil=>rfl
 |cons x xs ih=>rw[List.flatMap_cons,ih];rfl
theorem flat_U (xs:List Int):xs.flatMap cU=xs.map U64:=by induction xs with
 |nil=>rfl
 |cons x xs ih=>rw[List.flatMap_cons,ih];rfl
theorem I_one (xs:List Int):(xs.map I32).all (·.oneCell')=true:=by simp[Value.oneCell']
theorem OV_one (xs:List OV):(xs.flatMap OV.cells).all (·.oneCell')=true:=by simp[Value.oneCell']
theorem IdxI_spec (f:FuncId)(fs cs:List Value)[he:Enters Tryz.prog f](p:Int→Bool)(a:OA)(c:Nat)(xs:List Int)(A:HL)(h:RdS A a xs.length 1 (xs.flatMap cI))(hn:xs.length≤4611686018427387904)
  (hf:∀x∈xs,CallsS Tryz.prog f (fs++[I32 x]++cs) A (λv L'=>v=.bool (p x)∧L'=A)):
  CallsS Tryz.prog 167 [.slice a xs.length c,.func (.func f) fs.toArray cs.toArray] A (λv L'=>(∃i:Int,v=.int .i64 i∧decide (0≤i)=xs.any p)∧L'=A):=by
 refine CallsS.of_body Tryz.func167 rfl rfl rfl ?_;refine Q.r ?_;refine swp_loop (σ:=Nat) (λk=> [(0,.slice a xs.length c),(1,.func (.func f) fs.toArray cs.toArray),(7,.int .i64 xs.length),(8,.int .i64 k)]) (λ_=>A)
  (λk=>k≤xs.length∧(xs.take k).any p=false) (λk=>xs.length - k) 0 zt (Ent.refl _) ⟨by omega,by simp⟩ ?_
 rintro k ⟨hk,hany⟩
 by_cases hlt:k<xs.length
 ·obtain ⟨x,hx⟩:=mem_get hlt
  obtain ⟨b,o,rfl,hr⟩:=RdS.elem (g:=cI) (λ_=>rfl) h hx rfl;have hmx:x∈xs:=List.mem_of_getElem? hx;refine Q.r ?_;refine S.crF (fs:=fs) (cs:=cs) rfl rfl (hf x hmx) ?_;rintro _ _ ⟨rfl,rfl⟩
  cases hp:p x with
  |true=>
   refine Q.r ?_;exact N.t rfl (Ent.refl _) ⟨⟨_,rfl,by rw[show xs.any p=true from List.any_eq_true.2 ⟨x,hmx,hp⟩];simp⟩,rfl⟩
  |false=>
   refine Q.r ?_;refine ⟨k+1,zt,Ent.refl _,⟨by omega,?_⟩,by omega⟩;rw[take_snoc hx,List.any_append,hany]<;>simp[hp]
 ·have hke:k=xs.length:=by omega
  subst hke;rw[List.take_length] at hany;refine Q.r ?_;exact N.t rfl (Ent.refl _) ⟨⟨_,rfl,by rw[hany]<;>rfl⟩,rfl⟩
theorem HasI_spec (f:FuncId)(fs cs:List Value)[he:Enters Tryz.prog f](p:Int→Bool)(a:OA)(c:Nat)(xs:List Int)(A:HL)(h:RdS A a xs.length 1 (xs.flatMap cI))(hn:xs.length≤4611686018427387904)
  (hf:∀x∈xs,CallsS Tryz.prog f (fs++[I32 x]++cs) A (λv L'=>v=.bool (p x)∧L'=A)):
  CallsS Tryz.prog 142 [.slice a xs.length c,.func (.func f) fs.toArray cs.toArray] A (λv L'=>v=.bool (xs.any p)∧L'=A):=by
 refine CallsS.of_body Tryz.func142 rfl rfl rfl ?_;refine Q.r ?_;refine S.cr rfl (IdxI_spec f fs cs p a c xs A h hn hf) ?_;rintro _ _ ⟨⟨i,rfl,hi⟩,rfl⟩;refine Q.r ?_;exact N.t rfl (Ent.refl _) ⟨by rw[←hi],rfl⟩
theorem IdxO_spec (f:FuncId)(fs cs:List Value)[he:Enters Tryz.prog f](p:OV→Bool)(a:OA)(c:Nat)(xs:List OV)(A:HL)(h:RdS A a xs.length 2 (xs.flatMap OV.cells))(hn:xs.length≤4611686018427387904)
  (hf:∀x∈xs,CallsS Tryz.prog f (fs++[OV.val x]++cs) A (λv L'=>v=.bool (p x)∧L'=A)):
  CallsS Tryz.prog 174 [.slice a xs.length c,.func (.func f) fs.toArray cs.toArray] A (λv L'=>(∃i:Int,v=.int .i64 i∧decide (0≤i)=xs.any p)∧L'=A):=by
 refine CallsS.of_body Tryz.func174 rfl rfl rfl ?_;refine Q.r ?_;refine swp_loop (σ:=Nat) (λk=> [(0,.slice a xs.length c),(1,.func (.func f) fs.toArray cs.toArray),(7,.int .i64 xs.length),(8,.int .i64 k)]) (λ_=>A)
  (λk=>k≤xs.length∧(xs.take k).any p=false) (λk=>xs.length - k) 0 zt (Ent.refl _) ⟨by omega,by simp⟩ ?_
 rintro k ⟨hk,hany⟩
 by_cases hlt:k<xs.length
 ·obtain ⟨x,hx⟩:=mem_get hlt
  obtain ⟨b,o,rfl,hr⟩:=RdS.elem (g:=OV.cells) (λ_=>rfl) h hx rfl;have hmx:x∈xs:=List.mem_of_getElem? hx;refine Q.r ?_;refine S.crF (fs:=fs) (cs:=cs) rfl rfl (hf x hmx) ?_;rintro _ _ ⟨rfl,rfl⟩
  cases hp:p x with
  |true=>
   refine Q.r ?_;exact N.t rfl (Ent.refl _) ⟨⟨_,rfl,by rw[show xs.any p=true from List.any_eq_true.2 ⟨x,hmx,hp⟩];simp⟩,rfl⟩
  |false=>
   refine Q.r ?_;refine ⟨k+1,zt,Ent.refl _,⟨by omega,?_⟩,by omega⟩;rw[take_snoc hx,List.any_append,hany]<;>simp[hp]
 ·have hke:k=xs.length:=by omega
  subst hke;rw[List.take_length] at hany;refine Q.r ?_;exact N.t rfl (Ent.refl _) ⟨⟨_,rfl,by rw[hany]<;>rfl⟩,rfl⟩
theorem HasO_spec (f:FuncId)(fs cs:List Value)[he:Enters Tryz.prog f](p:OV→Bool)(a:OA)(c:Nat)(xs:List OV)(A:HL)(h:RdS A a xs.length 2 (xs.flatMap OV.cells))(hn:xs.length≤4611686018427387904)
  (hf:∀x∈xs,CallsS Tryz.prog f (fs++[OV.val x]++cs) A (λv L'=>v=.bool (p x)∧L'=A)):
  CallsS Tryz.prog 157 [.slice a xs.length c,.func (.func f) fs.toArray cs.toArray] A (λv L'=>v=.bool (xs.any p)∧L'=A):=by
 refine CallsS.of_body Tryz.func157 rfl rfl rfl ?_;refine Q.r ?_;refine S.cr rfl (IdxO_spec f fs cs p a c xs A h hn hf) ?_;rintro _ _ ⟨⟨i,rfl,hi⟩,rfl⟩;refine Q.r ?_;exact N.t rfl (Ent.refl _) ⟨by rw[←hi],rfl⟩
theorem IdxU_spec (f:FuncId)(fs cs:List Value)[he:Enters Tryz.prog f](p:Int→Bool)(a:OA)(c:Nat)(xs:List Int)(A:HL)(h:RdS A a xs.length 1 (xs.flatMap cU))(hn:xs.length≤4611686018427387904)
  (hf:∀x∈xs,CallsS Tryz.prog f (fs++[U64 x]++cs) A (λv L'=>v=.bool (p x)∧L'=A)):
  CallsS Tryz.prog 173 [.slice a xs.length c,.func (.func f) fs.toArray cs.toArray] A (λv L'=>(∃i:Int,v=.int .i64 i∧decide (0≤i)=xs.any p)∧L'=A):=by
 refine CallsS.of_body Tryz.func173 rfl rfl rfl ?_;refine Q.r ?_;refine swp_loop (σ:=Nat) (λk=> [(0,.slice a xs.length c),(1,.func (.func f) fs.toArray cs.toArray),(7,.int .i64 xs.length),(8,.int .i64 k)]) (λ_=>A)
  (λk=>k≤xs.length∧(xs.take k).any p=false) (λk=>xs.length - k) 0 zt (Ent.refl _) ⟨by omega,by simp⟩ ?_
 rintro k ⟨hk,hany⟩
 by_cases hlt:k<xs.length
 ·obtain ⟨x,hx⟩:=mem_get hlt
  obtain ⟨b,o,rfl,hr⟩:=RdS.elem (g:=cU) (λ_=>rfl) h hx rfl;have hmx:x∈xs:=List.mem_of_getElem? hx;refine Q.r ?_;refine S.crF (fs:=fs) (cs:=cs) rfl rfl (hf x hmx) ?_;rintro _ _ ⟨rfl,rfl⟩
  cases hp:p x with
  |true=>
   refine Q.r ?_;exact N.t rfl (Ent.refl _) ⟨⟨_,rfl,by rw[show xs.any p=true from List.any_eq_true.2 ⟨x,hmx,hp⟩];simp⟩,rfl⟩
  |false=>
   refine Q.r ?_;refine ⟨k+1,zt,Ent.refl _,⟨by omega,?_⟩,by omega⟩;rw[take_snoc hx,List.any_append,hany]<;>simp[hp]
 ·have hke:k=xs.length:=by omega
  subst hke;rw[List.take_length] at hany;refine Q.r ?_;exact N.t rfl (Ent.refl _) ⟨⟨_,rfl,by rw[hany]<;>rfl⟩,rfl⟩
theorem HasU_spec (f:FuncId)(fs cs:List Value)[he:Enters Tryz.prog f](p:Int→Bool)(a:OA)(c:Nat)(xs:List Int)(A:HL)(h:RdS A a xs.length 1 (xs.flatMap cU))(hn:xs.length≤4611686018427387904)
  (hf:∀x∈xs,CallsS Tryz.prog f (fs++[U64 x]++cs) A (λv L'=>v=.bool (p x)∧L'=A)):
  CallsS Tryz.prog 153 [.slice a xs.length c,.func (.func f) fs.toArray cs.toArray] A (λv L'=>v=.bool (xs.any p)∧L'=A):=by
 refine CallsS.of_body Tryz.func153 rfl rfl rfl ?_;refine Q.r ?_;refine S.cr rfl (IdxU_spec f fs cs p a c xs A h hn hf) ?_;rintro _ _ ⟨⟨i,rfl,hi⟩,rfl⟩;refine Q.r ?_;exact N.t rfl (Ent.refl _) ⟨by rw[←hi],rfl⟩
def badC (z:Int):Bool:=decide (z< -268435456)||decide (268435456<z)
def rightV (xs:List Int):Bool:=decide (0<xs.length)&&decide (xs.length≤8)&& !xs.any badC
instance : Enters Tryz.prog 143:=en143
theorem Right1_spec (z:Int)(L:HL):CallsS Tryz.prog 143 [I32 z] L (λv L'=>v=.bool (badC z)∧L'=L):=by
 refine CallsS.of_body Tryz.func143 rfl rfl rfl ?_
 by_cases h:z< -268435456
 ·refine Q.r ?_
  exact N.t rfl (Ent.refl _) ⟨by simp[badC,h],rfl⟩
 ·refine Q.r ?_
  exact N.t rfl (Ent.refl _) ⟨by simp[badC,h],rfl⟩
theorem Right_spec (a:OA)(c:Nat)(xs:List Int)(A:HL)(h:RdS A a xs.length 1 (xs.map I32))(hn:xs.length≤4611686018427387904):
  CallsS Tryz.prog 100 [.slice a xs.length c] A (λv L'=>v=.bool (rightV xs)∧L'=A):=by
 refine CallsS.of_body Tryz.func100 rfl rfl rfl ?_;unfold rightV
 by_cases h0:0<xs.length
 ·by_cases h8:xs.length≤8
  ·refine Q.r ?_
   refine S.cr rfl (HasI_spec 143 [] [] badC a c xs A (by rw[flat_I];exact h) hn (λx _=>Right1_spec x A)) ?_;rintro _ _ ⟨rfl,rfl⟩;refine Q.r ?_;exact N.t rfl (Ent.refl _) ⟨by simp[h0,h8],rfl⟩
  ·refine Q.r ?_
   exact N.t rfl (Ent.refl _) ⟨by simp[h0,h8],rfl⟩
 ·refine Q.r ?_
  exact N.t rfl (Ent.refl _) ⟨by simp[h0],rfl⟩
theorem CloneI_spec (a:OA)(c:Nat)(xs:List Int)(A:HL)(h:RdS A a xs.length 1 (xs.map I32))(hn:xs.length≤1000000):
  CallsS Tryz.prog 145 [.slice a xs.length c] A (λv L'=>∃a' c',v=.slice a' xs.length c'∧L'=slO 21 1 a' xs.length c' (xs.map I32)::A):=by
 refine CallsS.of_body Tryz.func145 rfl rfl rfl ?_
 cases a with
 |none=>
  have hx:xs=[]:=by
   rcases h.2 with h0|⟨_,_,h0,_⟩
   ·exact List.eq_nil_of_length_eq_zero h0
   ·cases h0
  subst hx;refine Q.r ?_;exact N.t rfl slO_nil ⟨none,0,rfl,rfl⟩
 |some ad=>
  refine Q.r ?_;(repeat (intro b1;refine Q.r ?_));refine opsS_ent (slO_fold (sz:=1) (m:=0) rfl) ?_;refine S.app0 rfl rfl rfl (SrcS.rd h.sub (I_one _)) zr zo zo (λa5 c5=> ?_);refine Q.r ?_;exact N.t rfl (Ent.refl _) ⟨a5,c5,rfl,rfl⟩
theorem CutVec_spec (a:OA)(c k:Nat)(xs:List Int)(A:HL)(h:RdS A a xs.length 1 (xs.map I32))(hc:xs.length≤c)(hk:k≤1000000):
  CallsS Tryz.prog 78 [.slice a xs.length c,.int .i64 k] A (λv L'=>∃b c',v=.slice b (xs.take k).length c'∧L'=slO 21 1 b (xs.take k).length c' ((xs.take k).map I32)::A):=by
 refine CallsS.of_body Tryz.func78 rfl rfl rfl ?_;have hl:(xs.take k).length=min k xs.length:=List.length_take ..;have hr:RdS A a (xs.take k).length 1 ((xs.take k).map I32):=by
  have:=h.take (k:=min k xs.length) zo;rw[hl];rw[Nat.mul_one,←List.map_take] at this
  rwa [←List.take_eq_take_min] at this
 refine Q.r ?_;(repeat (intro b1;refine Q.r ?_));refine opsS_ent (slO_fold (sz:=1) (m:=0) rfl) ?_;refine S.y (Y.slT (h:=(xs.take k).length) rfl rfl (by rw[hl];omega) zo) ?_;refine S.app0 rfl rfl rfl (SrcS.rd hr.sub (I_one _)) zr zo zo (λa5 c5=> ?_);refine Q.r ?_;exact N.t rfl (Ent.refl _) ⟨a5,c5,rfl,rfl⟩
theorem SameVec_spec (a:OA)(c:Nat)(xs:List Int)(a':OA)(c':Nat)(ys:List Int)(A:HL)(h:RdS A a xs.length 1 (xs.map I32))(h':RdS A a' ys.length 1 (ys.map I32))(hn:xs.length≤4611686018427387904):
  CallsS Tryz.prog 56 [.slice a xs.length c,.slice a' ys.length c'] A (λv L'=>v=.bool (decide (xs=ys))∧L'=A):=by
 refine CallsS.of_body Tryz.func56 rfl rfl rfl ?_
 by_cases hl:xs.length=ys.length
 ·refine Q.r ?_
  refine swp_loop (σ:=Nat) (λk=> [(0,.slice a xs.length c),(1,.slice a' ys.length c'),(12,.int .i64 xs.length),(13,.int .i64 k)]) (λ_=>A)
   (λk=>k≤xs.length∧xs.take k=ys.take k) (λk=>xs.length - k) 0 zt (Ent.refl _) ⟨by omega,by simp⟩ ?_
  rintro k ⟨hk,he⟩
  by_cases hlt:k<xs.length
  ·obtain ⟨x,hx⟩:=mem_get hlt
   obtain ⟨y,hy⟩:=mem_get (l:=ys) (k:=k) zo;obtain ⟨b,o,rfl,hr⟩:=RdS.elem (g:=cI) (l:=xs) (λ_=>rfl) (by rw[flat_I];exact h) hx rfl;obtain ⟨b',o',rfl,hr'⟩:=RdS.elem (g:=cI) (l:=ys) (λ_=>rfl) (by rw[flat_I];exact h') hy rfl
   by_cases hxy:x=y
   ·refine Q.r ?_
    refine D.start [] [] [0,1,2,3,4,5,6,7,8] _ [] rfl zk rfl zk NoPanic.no (Ent.refl _) ?_;refine Q.rd ?_;refine Q.r ?_;exact ⟨k+1,zt,Ent.refl _,⟨by omega,by rw[take_snoc hx,take_snoc hy,he,hxy]⟩,by omega⟩
   ·refine Q.r ?_
    refine D.start [] [] [0,1,2,3,4,5,6,7,8] _ [] rfl zk rfl zk NoPanic.no (Ent.refl _) ?_;refine Q.rd ?_;refine Q.r ?_;exact N.t rfl (Ent.refl _) ⟨by rw[decide_eq_false];exact λe=>hxy (by rw[e] at hx;rw[hx] at hy;exact Option.some.inj hy),rfl⟩
  ·have hke:k=xs.length:=by omega
   subst hke;rw[List.take_length,hl,List.take_length] at he;refine Q.r ?_;exact N.t rfl (Ent.refl _) ⟨by rw[decide_eq_true he],rfl⟩
 ·refine Q.r ?_
  exact N.t rfl (Ent.refl _) ⟨by rw[decide_eq_false];exact λe=>hl (by rw[e]),rfl⟩
end Go.Proofs.YtjlgabojhnnbaaaGreatDoor
namespace Go.SX
open Go
def ar (k:IntKind)(d:Array Int)(rest:List Value):List Value:=d.toList.map (Value.int k)++rest
theorem ar_len {k:IntKind}{d:Array Int}{rest:List Value}:(ar k d rest).length=d.size+rest.length:=by simp[ar]
theorem ar_get {k:IntKind}{d:Array Int}{rest:List Value}{i:Nat}(h:i<d.size):(ar k d rest)[i]? =some (.int k d[i]!):=by
 unfold ar;rw[List.getElem?_append_left (by simpa using h)]
 simp[h]
theorem ar_set {k:IntKind}{d:Array Int}{rest:List Value}{i:Nat}{v:Int}(h:i<d.size):(ar k d rest).set i (.int k v)=ar k (d.setIfInBounds i v) rest:=by
 unfold ar;rw[List.set_append_left _ _ (by simpa using h)]
 simp
section
variable {P : Program} {n : Nat} {ops rest : List Oper} {Q : Post} {f : Env} {A L : HL} {d : Tmp} {ty : TypeId} {pos : String} {af : Array Edge}
theorem Y.addN {x y:Operand}{t t':TypeId}{a b:Nat}(hx:ev f x=some (.int .i64 (Int.ofNat a)))(hy:ev f y=some (.int .i64 (Int.ofNat b)))(h:a+b≤9223372036854775807):YieldS P n ops ⟨some d,.binOp .add t x y t',ty,pos,af,none⟩ f A (.int .i64 ((a+b:Nat):Int)):=
 Y.addi hx hy rfl zo zo
theorem Y.subN {x y:Operand}{t t':TypeId}{a b:Nat}(hx:ev f x=some (.int .i64 (Int.ofNat a)))(hy:ev f y=some (.int .i64 (Int.ofNat b)))(h:b≤a∧a≤9223372036854775807):YieldS P n ops ⟨some d,.binOp .sub t x y t',ty,pos,af,none⟩ f A (.int .i64 ((a - b:Nat):Int)):=
 Y.subi hx hy (by have:=h.1;show (a:Int) - (b:Int)=_;omega) zo zo
theorem Y.mulN {x y:Operand}{t t':TypeId}{a b:Nat}(hx:ev f x=some (.int .i64 (Int.ofNat a)))(hy:ev f y=some (.int .i64 (Int.ofNat b)))(h:a*b≤9223372036854775807):YieldS P n ops ⟨some d,.binOp .mul t x y t',ty,pos,af,none⟩ f A (.int .i64 ((a*b:Nat):Int)):=by
 have:=Y.mul (P:=P) (n:=n) (ops:=ops) (A:=A) (d:=d) (ty:=ty) (pos:=pos) (af:=af) (t:=t) (t':=t') hx hy;have e:(Int.ofNat a)*(Int.ofNat b)=((a*b:Nat):Int):=rfl
 rwa [e,wrap_i64 zo zo] at this
theorem Y.quoN {x y:Operand}{t t':TypeId}{a b:Nat}(hx:ev f x=some (.int .i64 (Int.ofNat a)))(hy:ev f y=some (.int .i64 (Int.ofNat b)))(h:0<b∧a≤9223372036854775807):YieldS P n ops ⟨some d,.binOp .quo t x y t',ty,pos,af,none⟩ f A (.int .i64 ((a / b:Nat):Int)):=by
 have:=Y.quo (P:=P) (n:=n) (ops:=ops) (A:=A) (d:=d) (ty:=ty) (pos:=pos) (af:=af) (t:=t) (t':=t') hx hy (by have:=h.1;show ¬(b:Int)=0;omega);have e:(Int.ofNat a).tdiv (Int.ofNat b)=((a / b:Nat):Int):=rfl;have h2:a / b≤a:=Nat.div_le_self ..;have h3:=h.2
 rwa [e,wrap_i64 (by generalize a / b=q at*;omega) (by generalize a / b=q at*;omega)] at this
theorem Y.addC {x y:Operand}{t t':TypeId}{a b:Nat}(hx:ev f x=some (.int .i64 (Int.ofNat a)))(hy:ev f y=some (.int .i64 (@OfNat.ofNat Int b instOfNat)))(h:a+(@OfNat.ofNat Nat b (instOfNatNat b))≤9223372036854775807):YieldS P n ops ⟨some d,.binOp .add t x y t',ty,pos,af,none⟩ f A (.int .i64 ((a+(@OfNat.ofNat Nat b (instOfNatNat b)):Nat):Int)):=Y.addN (b:=b) hx hy h
theorem Y.subC {x y:Operand}{t t':TypeId}{a b:Nat}(hx:ev f x=some (.int .i64 (Int.ofNat a)))(hy:ev f y=some (.int .i64 (@OfNat.ofNat Int b instOfNat)))(h:(@OfNat.ofNat Nat b (instOfNatNat b))≤a∧a≤9223372036854775807):YieldS P n ops ⟨some d,.binOp .sub t x y t',ty,pos,af,none⟩ f A (.int .i64 ((a - (@OfNat.ofNat Nat b (instOfNatNat b)):Nat):Int)):=Y.subN (b:=b) hx hy h
theorem Y.mulC {x y:Operand}{t t':TypeId}{a b:Nat}(hx:ev f x=some (.int .i64 (Int.ofNat a)))(hy:ev f y=some (.int .i64 (@OfNat.ofNat Int b instOfNat)))(h:a*(@OfNat.ofNat Nat b (instOfNatNat b))≤9223372036854775807):YieldS P n ops ⟨some d,.binOp .mul t x y t',ty,pos,af,none⟩ f A (.int .i64 ((a*(@OfNat.ofNat Nat b (instOfNatNat b)):Nat):Int)):=Y.mulN (b:=b) hx hy h
theorem Y.mulD {x y:Operand}{t t':TypeId}{a b:Nat}(hx:ev f x=some (.int .i64 (@OfNat.ofNat Int b instOfNat)))(hy:ev f y=some (.int .i64 (Int.ofNat a)))(h:(@OfNat.ofNat Nat b (instOfNatNat b))*a≤9223372036854775807):YieldS P n ops ⟨some d,.binOp .mul t x y t',ty,pos,af,none⟩ f A (.int .i64 (((@OfNat.ofNat Nat b (instOfNatNat b))*a:Nat):Int)):=Y.mulN (a:=b) (b:=a) hx hy h
theorem Y.quoC {x y:Operand}{t t':TypeId}{a b:Nat}(hx:ev f x=some (.int .i64 (Int.ofNat a)))(hy:ev f y=some (.int .i64 (@OfNat.ofNat Int b instOfNat)))(h:0<(@OfNat.ofNat Nat b (instOfNatNat b))∧a≤9223372036854775807):YieldS P n ops ⟨some d,.binOp .quo t x y t',ty,pos,af,none⟩ f A (.int .i64 ((a / (@OfNat.ofNat Nat b (instOfNatNat b)):Nat):Int)):=Y.quoN (b:=b) hx hy h
theorem Y.iaN {x y:Operand}{t e:TypeId}{b o m c sz bts k:Nat}{ag:Bool}{zs:List Value}{kk:IntKind}[h:SlTy P t e][h2:Ty P e ag sz zs bts](hx:ev f x=some (.slice (some ⟨b,o,none⟩) m c))(hy:ev f y=some (.int kk (Int.ofNat k)))(h1:k<m):
  YieldS P n ops ⟨some d,.indexAddr t x y,ty,pos,af,none⟩ f A (.pointer (some ⟨b,o+k*sz,none⟩)):=Y.ia hx hy rfl h1
theorem Y.ldI {x:Operand}{t t0 sz bts:Nat}{zs:List Value}{b z:Nat}{k:IntKind}{dd:Array Int}{rs:List Value}[h:Ty P t false sz zs bts][hb:FindB b A (cl (ar k dd rs) t0)](hx:ev f x=some (.pointer (some ⟨b,0+z*1,none⟩)))(hz:z<dd.size):
  YieldS P n ops ⟨some d,.load t x,ty,pos,af,none⟩ f A (.int k dd[z]!):=Y.ld (h:=h) (hb:=hb) hx (by rw[Nat.zero_add,Nat.mul_one];exact ar_get hz)
theorem S.stI {x y:Operand}{t t0 bts:Nat}{ag:Bool}{zs:List Value}{b z:Nat}{v:Int}{k:IntKind}{dd:Array Int}{rs:List Value}{L':Obj→HL}[h:Ty P t ag 1 zs bts][hb:UpdB b L (cl (ar k dd rs) t0) L']
  (hx:ev f x=some (.pointer (some ⟨b,0+z*1,none⟩))) (hy:ev f y=some (.int k v)) (hz:z<dd.size)
  (hk:opsS P n ops rest Q f (L' (cl (ar k (dd.setIfInBounds z v) rs) t0))):opsS P n ops (⟨none,.store t x y,ty,pos,af,none⟩::rest) Q f L:=
 S.st1 (h:=h) (hb:=hb) hx hy rfl (Nat.ble_eq_true_of_le (by rw[ar_len];omega)) (by rw[Nat.zero_add,Nat.mul_one];exact ar_set hz) hk
end
theorem swp_size {d:Array Int}{i j:Nat}:(Sort.swp d i j).size=d.size:=by simp[Sort.swp]
section
variable {P : Program} {n : Nat} {ops rest : List Oper} {Q : Post} {f : Env} {A L : HL} {E cs σ : List Nat} {listed : Array Bool} {held : Bool}
variable {d : Tmp} {op : Op} {ty : TypeId} {pos : String} {af : Array Edge} {g : Option (Nat × Bool)} {v : Value}
theorem Q.yn (hk:opsS P n ops rest Q (upd f d v) L)(hy:YieldS P n ops ⟨some d,op,ty,pos,af,g⟩ f L v:=by first|exact Y.addN rfl rfl zo|exact Y.addC rfl rfl zo|exact Y.subN rfl rfl zo|exact Y.subC rfl rfl zo|exact Y.iaN rfl rfl zo|exact Y.mulC rfl rfl zo|exact Y.mulD rfl rfl zo|exact Y.quoC rfl rfl zo|exact Y.ldI rfl zo):opsS P n ops (⟨some d,op,ty,pos,af,g⟩::rest) Q f L:=S.y hy hk
theorem Q.dyn {i:Nat}(hi:ops[i]? =some ⟨some d,op,ty,pos,af,g⟩)(h9:Nat.beq i 99999=false)(hE:E.contains i=false)(h:drawS P n ops E cs A σ Q (listed.setIfInBounds i true) held (upd f d v) L)
  (hy:YieldS P n ops ⟨some d,op,ty,pos,af,g⟩ f [] v:=by first|exact Y.addN rfl rfl zo|exact Y.addC rfl rfl zo|exact Y.subN rfl rfl zo|exact Y.subC rfl rfl zo|exact Y.iaN rfl rfl zo|exact Y.mulC rfl rfl zo|exact Y.mulD rfl rfl zo|exact Y.quoC rfl rfl zo|exact Y.guard rfl (by first|exact Y.addN rfl rfl zo|exact Y.addC rfl rfl zo|exact Y.subN rfl rfl zo|exact Y.subC rfl rfl zo|exact Y.iaN rfl rfl zo|exact Y.mulC rfl rfl zo|exact Y.mulD rfl rfl zo|exact Y.quoC rfl rfl zo)):drawS P n ops E cs A (i::σ) Q listed held f L:=D.yp hi h9 hE hy h
theorem Q.dyl {i:Nat}(hi:ops[i]? =some ⟨some d,op,ty,pos,af,g⟩)(h9:Nat.beq i 99999=false)(hE:E.contains i=false)(h:drawS P n ops E cs A σ Q (listed.setIfInBounds i true) true (upd f d v) L)
  (hc:(cs.all λm=>m !=i&&(ops.toArray[m]?).isSome&&reach ops.toArray 4 i m)=true:=by kernel_rfl) (hy:YieldS P n ops ⟨some d,op,ty,pos,af,g⟩ f A v:=by first|exact Y.ldI rfl zo|exact Y.guard rfl (Y.ldI rfl zo)):drawS P n ops E cs A (i::σ) Q listed true f L:=D.y hi h9 hE hc hy h
end
namespace Q
theorem rn {A B:Prop}(hk:B)(h:W B→A:=by intro hk;(repeat (first|refine Q.yn ?_|refine S.stI rfl rfl (by first|omega|(rw[Array.size_setIfInBounds];omega)) ?_|(refine GQ.y ?_;refine Q.y ?_)|refine Q.go ?_|(refine GQ.g ?_;refine Q.gq ?_)|(refine GQ.s ?_;refine Q.st ?_)|(refine GQ.g ?_;refine Q.gd ?_)|refine Q.ct rfl ?_|refine Q.cf rfl ?_));(first|(refine GQ.a ?_;refine Q.al ?_;exact hk.x)|exact hk.x)):A:=h ⟨hk⟩
theorem rdn {A B:Prop}(hk:B)(h:W B→A:=by intro hk;(repeat (first|(refine opsS_nil ?_;refine N.tn ?_)|refine Q.dyn rfl rfl rfl ?_|refine Q.dyl rfl rfl rfl ?_|refine D.endA ?_|refine Q.dp rfl rfl rfl ?_|refine Q.dy rfl rfl rfl ?_|refine D.end_ ?_|refine Q.endH ?_|(refine D.e rfl rfl rfl ?_;(first|refine S.gskip1 rfl ?_|refine S.gskip rfl ?_|refine S.y (Y.gskipU rfl) ?_);refine opsS_nil ?_;refine N.tn ?_)|refine Q.dT rfl rfl rfl ?_|refine Q.dF rfl rfl rfl ?_|(refine D.e rfl rfl rfl ?_;(refine GQ.s ?_;refine Q.st ?_);refine opsS_nil ?_;refine N.tn ?_)));(first|(refine D.e rfl rfl rfl ?_;refine GQ.a ?_;refine Q.al ?_;exact hk.x)|exact hk.x)):A:=h ⟨hk⟩
theorem rd2 {A B:Prop}(hk:B)(h:W B→A:=by intro hk;(repeat (first|refine D.endA ?_|refine Q.dp rfl rfl rfl ?_|refine Q.dy rfl rfl rfl ?_|refine D.end_ ?_|refine Q.endH ?_|(refine D.e rfl rfl rfl ?_;(first|refine S.gskip1 rfl ?_|refine S.gskip rfl ?_|refine S.y (Y.gskipU rfl) ?_);refine opsS_nil ?_;refine N.tn ?_)));exact hk.x):A:=h ⟨hk⟩
theorem rd3 {A B:Prop}(hk:B)(h:W B→A:=by intro hk;(repeat (first|refine D.endA ?_|refine Q.dy rfl rfl rfl ?_|refine Q.dp rfl rfl rfl ?_|refine D.end_ ?_|refine Q.endH ?_|(refine D.e rfl rfl rfl ?_;(first|refine S.gskip1 rfl ?_|refine S.gskip rfl ?_|refine S.y (Y.gskipU rfl) ?_);refine opsS_nil ?_;refine N.tn ?_)));exact hk.x):A:=h ⟨hk⟩
theorem rd4 {A B:Prop}(hk:B)(h:W B→A:=by intro hk;(repeat (first|refine D.endA ?_|refine Q.dp rfl rfl rfl ?_|refine Q.dy rfl rfl rfl ?_|refine D.end_ ?_|refine Q.endH ?_|(refine D.e rfl rfl rfl ?_;(first|refine S.gskip1 rfl ?_|refine S.gskip rfl ?_|refine S.y (Y.gskipU rfl) ?_);refine opsS_nil ?_;refine N.tn ?_)|refine Q.dT rfl rfl rfl ?_|refine Q.dF rfl rfl rfl ?_));exact hk.x):A:=h ⟨hk⟩
theorem rd5 {A B:Prop}(hk:B)(h:W B→A:=by intro hk;(repeat (first|refine Q.dyn rfl rfl rfl ?_|refine Q.dyl rfl rfl rfl ?_|refine D.y rfl rfl rfl zk (by first|exact (Y.ldRj rfl (by first|assumption|exact RdC.sub (by assumption)) rfl)|exact Y.guard rfl (Y.ldRj rfl (by first|assumption|exact RdC.sub (by assumption)) rfl)) ?_|refine D.endA ?_|refine Q.dp rfl rfl rfl ?_|refine Q.dy rfl rfl rfl ?_|refine D.end_ ?_|refine Q.endH ?_|(refine D.e rfl rfl rfl ?_;(first|refine S.gskip1 rfl ?_|refine S.gskip rfl ?_|refine S.y (Y.gskipU rfl) ?_);refine opsS_nil ?_;refine N.tn ?_)|refine Q.dT rfl rfl rfl ?_|refine Q.dF rfl rfl rfl ?_|(refine D.e rfl rfl rfl ?_;(first|(refine GQ.a ?_;refine Q.al (λb1=> ?_))|(refine GQ.s ?_;refine Q.st ?_));refine opsS_nil ?_;refine N.tn ?_)));exact hk.x):A:=h ⟨hk⟩
theorem rd6 {A B:Prop}(hk:B)(h:W B→A:=by intro hk;(repeat (first|refine S.y (Y.ldRj rfl (by first|assumption|exact RdC.sub (by assumption)) rfl) ?_|refine Q.yn ?_|refine S.stI rfl rfl (by first|omega|(rw[Array.size_setIfInBounds];omega)) ?_|(refine GQ.y ?_;refine Q.y ?_)|refine Q.go ?_|(refine GQ.g ?_;refine Q.gq ?_)|(refine GQ.s ?_;refine Q.st ?_)|(refine GQ.g ?_;refine Q.gd ?_)|refine Q.ct rfl ?_|refine Q.cf rfl ?_|(refine GQ.a ?_;refine Q.al (λb1=> ?_))));exact hk.x):A:=h ⟨hk⟩
theorem rd7 {A B:Prop}(hk:B)(h:W B→A:=by intro hk;(repeat (first|refine D.endA ?_|refine Q.dy rfl rfl rfl ?_|refine Q.dp rfl rfl rfl ?_|refine D.end_ ?_|refine Q.endH ?_|(refine D.e rfl rfl rfl ?_;(first|refine S.gskip1 rfl ?_|refine S.gskip rfl ?_|refine S.y (Y.gskipU rfl) ?_);refine opsS_nil ?_;refine N.tn ?_)|refine Q.dT rfl rfl rfl ?_|refine Q.dF rfl rfl rfl ?_));exact hk.x):A:=h ⟨hk⟩
end Q
section
variable {P : Program} {n : Nat} {ops rest : List Oper} {Q : Post} {f : Env} {A L : HL} {d : Tmp} {ty : TypeId} {pos : String} {af : Array Edge}
theorem Y.ldRj {x:Operand}{t:TypeId}{sz bts:Nat}{zs:List Value}{b o j:Nat}{v:Value}{cs:List Value}[h:Ty P t false sz zs bts](hx:ev f x=some (.pointer (some ⟨b,o+j,none⟩)))(hr:RdC A b o cs)(hj:cs[j]? =some v):YieldS P n ops ⟨some d,.load t x,ty,pos,af,none⟩ f A v:=
 Y.ldR hx (hr.at hj)
theorem Y.shr {x y:Operand}{t t':TypeId}{k k':IntKind}{a b:Nat}(hx:ev f x=some (.int k (a:Int)))(hy:ev f y=some (.int k' (b:Int)))(hb:b≤k.bits):YieldS P n ops ⟨some d,.binOp .shr t x y t',ty,pos,af,none⟩ f A (.int k ((a / 2^b:Nat):Int)):=
 Y.of (fun _ w s => by
  have e1:¬((b:Int)<0):=by omega
  have e2:Min.min b k.bits=b:=Nat.min_eq_left hb;have e3:(a:Int).fdiv (2^b)=((a / 2^b:Nat):Int):=by
   rw[Int.fdiv_eq_ediv_of_nonneg _ (by exact_mod_cast Nat.zero_le _)];norm_cast
  simp[execOp,s.eval hx,s.eval hy,eqGuard,binOp,Op.shift,e1,e2,e3])
theorem Y.shl {x y:Operand}{t t':TypeId}{k k':IntKind}{a b:Nat}(hx:ev f x=some (.int k (a:Int)))(hy:ev f y=some (.int k' (b:Int)))(hb:b≤k.bits):YieldS P n ops ⟨some d,.binOp .shl t x y t',ty,pos,af,none⟩ f A (.int k (k.wrap ((a*2^b:Nat):Int))):=
 Y.of (fun _ w s => by
  have e1:¬((b:Int)<0):=by omega
  have e2:Min.min b k.bits=b:=Nat.min_eq_left hb;have e3:(a:Int)*2^b=((a*2^b:Nat):Int):=by norm_cast
  have e4:(Op.shift .shl k (a:Int) k' (b:Int)).run P w=.ok (.int k (k.wrap ((a*2^b:Nat):Int))) w:=by
   unfold Op.shift;rw[if_neg e1];simp only[Int.toNat_natCast,e2,e3,Sem.run_pure]
  simp[execOp,s.eval hx,s.eval hy,eqGuard,binOp,e4])
theorem Y.and {x y:Operand}{t t':TypeId}{k:IntKind}{a b:Int}(hx:ev f x=some (.int k a))(hy:ev f y=some (.int k b)):YieldS P n ops ⟨some d,.binOp .and t x y t',ty,pos,af,none⟩ f A ((.int k (k.wrap ((BitVec.ofInt k.bits a)&&&(BitVec.ofInt k.bits b)).toNat))):=  Y.of (λ_ w s=>by simp[execOp,s.eval hx,s.eval hy,eqGuard,binOp,Op.intBits])
theorem Y.idx {x y:Operand}{t:TypeId}{k:IntKind}{s0:ByteArray}{i:Nat}{b:UInt8}[h:StrTy P t](hx:ev f x=some (.string s0))(hy:ev f y=some (.int k (i:Int)))(hb:s0[i]? =some b):YieldS P n ops ⟨some d,.index t x y,ty,pos,af,none⟩ f A (.int .u8 b.toNat):=
 Y.of (λ_ w s=>by simp[execOp,s.eval hx,s.eval hy,Instr.index,asIntOf,h.und,hb])
end
theorem opsS_mono {P:Program}{n:Nat}{ops rest:List Oper}{Q Q':Post}{f:Env}{L:HL}(h:opsS P n ops rest Q f L)(hq:∀e f L,Q e f L→Q' e f L):opsS P n ops rest Q' f L:=
 λok F a w s t=>wpList_mono (h ok F a w s t) λ_ _ _ ⟨f,L,s,t,q⟩=>⟨f,L,s,t,hq _ _ _ q⟩
theorem opsS_cutT {P:Program}{n:Nat}{ops rest:List Oper}{y:Code}{Q:Post}{f:Env}{L:HL}{σ:Type}(sl:σ→List (Nat×Value))(H:σ→HL)(φ:σ→Prop)
  (h:opsS P n ops rest (thenS (λf L=>∃s,slots f (sl s)∧Ent L (H s)∧φ s) Q) f L)
  (hk:∀s,φ s→swp P n y Q (updAll (sl s)) (H s)):opsS P n ops rest (thenS (λf L=>swp P n y Q f L) Q) f L:=by
 refine opsS_mono h ?_;intro e f L q
 cases e<;>first|exact q|(obtain ⟨s,h1,h2,h3⟩:=q;exact swp_keep _ h1 (swp_ent h2 (hk s h3)))
theorem xor64 (a b:UInt64):IntKind.u64.wrap (((BitVec.ofInt IntKind.u64.bits (a.toNat:Int))^^^(BitVec.ofInt IntKind.u64.bits (b.toNat:Int))).toNat:Int)=((a^^^b).toNat:Int):=by
 have e:∀x:UInt64,BitVec.ofInt 64 (x.toNat:Int)=x.toBitVec:=λx=>by
  apply BitVec.eq_of_toNat_eq;have:=x.toNat_lt
  simp
 have h:=(a^^^b).toNat_lt
 show IntKind.u64.wrap (((BitVec.ofInt 64 (a.toNat:Int))^^^(BitVec.ofInt 64 (b.toNat:Int))).toNat:Int)=_
 rw[e,e,show (a.toBitVec^^^b.toBitVec).toNat=(a^^^b).toNat from rfl];exact wrap_u64 zo zo
theorem shl64 (a:UInt64)(k:Nat)(hk:k<64):IntKind.u64.wrap ((a.toNat*2^k:Nat):Int)=((a<<<(UInt64.ofNat k)).toNat:Int):=by
 rw[IntKind.wrap_u64]
 simp[UInt64.toNat_shiftLeft,Nat.mod_eq_of_lt hk,Nat.shiftLeft_eq]
theorem shr64 (a:UInt64)(k:Nat)(hk:k<64):((a.toNat / 2^k:Nat):Int)=((a>>>(UInt64.ofNat k)).toNat:Int):=by
 have e1:(UInt64.ofNat k).toNat % 64=k:=by simp;omega
 rw[UInt64.toNat_shiftRight,e1,Nat.shiftRight_eq_div_pow]
theorem and64 (a b:Nat)(ha:a<18446744073709551616)(hb:b<18446744073709551616):IntKind.u64.wrap (((BitVec.ofInt IntKind.u64.bits (a:Int))&&&(BitVec.ofInt IntKind.u64.bits (b:Int))).toNat:Int)=((a&&&b:Nat):Int):=by
 have e:∀x:Nat,x<18446744073709551616→(BitVec.ofInt 64 (x:Int)).toNat=x:=λx hx=>by simp;omega
 show IntKind.u64.wrap (((BitVec.ofInt 64 (a:Int))&&&(BitVec.ofInt 64 (b:Int))).toNat:Int)=_
 rw[BitVec.toNat_and,e _ ha,e _ hb];have:a&&&b≤a:=Nat.and_le_left;exact wrap_u64 zo zo
theorem bitsLen_shift {x k:Nat}(h:2^k≤x):Sort.bitsLen x=k+Sort.bitsLen (x / 2^k):=by
 unfold Sort.bitsLen;have hp:0<2^k:=Nat.two_pow_pos k;have h1:¬x=0:=by omega
 have h2:¬x / 2^k=0:=by
  have:=Nat.div_pos h hp;omega
 rw[if_neg h1,if_neg h2];have hlog:Nat.log2 (x / 2^k)=Nat.log2 x - k:=by
  have hge:k≤Nat.log2 x:=(Nat.le_log2 h1).2 h;refine (Nat.log2_eq_iff h2).2 ⟨?_,?_⟩
  ·rw[Nat.le_div_iff_mul_le hp,←Nat.pow_add,Nat.sub_add_cancel hge]
   exact Nat.log2_self_le h1
  ·rw[Nat.div_lt_iff_lt_mul hp,←Nat.pow_add,show Nat.log2 x - k+1+k=Nat.log2 x+1 by omega]
   exact Nat.lt_log2_self
 have hge:k≤Nat.log2 x:=(Nat.le_log2 h1).2 h;omega
end Go.SX
theorem Go.SX.RV.c {P:Go.Program}{n:Nat}{rs:List Go.ResultVar}{f:Go.SX.Env}{L:List Go.SX.HP}{l:List Go.Value}(h:Go.SX.RV P n rs f L l:=by apply Go.SX.RV.cellN;rfl;exact Go.SX.RdC.row;rfl;exact Go.SX.RV.nil):Go.SX.RV P n rs f L l:=h
namespace Go.Proofs.YtjlgabojhnnbaaaGreatDoor
open Go Go.SX
attribute [local irreducible] swp opsS thenS blockS retS CallsS St Ent YieldS anyS drawS
abbrev VL :=List (Int×List Int)
def okR (M:OM)(ovs:List OV):Prop:=∀o∈ovs,SlM M o.a o.vec.length 1 (o.vec.map I32)
def chainP (M:OM)(p:Nat)(a:OA)(c:Nat)(ovs:List OV):HL:=[pt p (cl [.slice a ovs.length c] 250),slO 116 2 a ovs.length c (ovs.flatMap OV.cells)]
def chainH (M:OM)(p:Nat)(vs:VL):HP:=exH λx:(OA×Nat)×List OV=>allH (pureH (x.2.map OV.abs=vs∧okR M x.2)::chainP M p x.1.1 x.1.2 x.2)
theorem chain_shut {M:OM}{p:Nat}{a:OA}{c:Nat}{ovs:List OV}{L:HL}(h:okR M ovs):Ent (pt p (cl [.slice a ovs.length c] 250)::slO 116 2 a ovs.length c (ovs.flatMap OV.cells)::L) (chainH M p (ovs.map OV.abs)::L):=
 Ent.trans (Ent.shut_pure ⟨rfl,h⟩) (Ent.trans (Ent.shut_all (L:=pureH (ovs.map OV.abs=ovs.map OV.abs∧okR M ovs)::chainP M p a c ovs)) (Ent.shut_ex (P:=λx:(OA×Nat)×List OV=>allH (pureH (x.2.map OV.abs=ovs.map OV.abs∧okR M x.2)::chainP M p x.1.1 x.1.2 x.2)) ((a,c),ovs)))
theorem calls_chain {g:FuncId}{args:List Value}{R:Value→HL→Prop}{M:OM}{p:Nat}{vs:VL}{L:HL}
  (h:∀a c ovs,ovs.map OV.abs=vs→okR M ovs→CallsS Tryz.prog g args (pt p (cl [.slice a ovs.length c] 250)::slO 116 2 a ovs.length c (ovs.flatMap OV.cells)::L) R):CallsS Tryz.prog g args (chainH M p vs::L) R:=
 CallsS.ex λx=>CallsS.all (CallsS.pure λhx=>h x.1.1 x.1.2 x.2 hx.1 hx.2)
theorem chain_rd {p b c k:Nat}{ovs:List OV}{o:OV}{L:HL}(h:ovs[k]? =some o):RdC (pt p (cl [.slice (some ⟨b,0,none⟩) ovs.length c] 250)::slO 116 2 (some ⟨b,0,none⟩) ovs.length c (ovs.flatMap OV.cells)::L) b (0+k*2) (OV.cells o):=
 RdC.elem (g:=OV.cells) (λ_=>rfl) RdC.ofS h
def lastS (vs:VL):Int:=((vs.getLast?).map (·.1)).getD 0
theorem LenN_spec (L:HL):CallsS Tryz.prog 137 [.pointer none] L (λv L'=>v=.int .i64 0∧L'=L):=by
 refine CallsS.of_body Tryz.func137 rfl rfl rfl ?_;refine Q.r ?_;exact N.t rfl (Ent.refl _) ⟨rfl,rfl⟩
theorem LastN_spec (L:HL):CallsS Tryz.prog 133 [.pointer none] L (λv L'=>v=.int .u64 0∧L'=L):=by
 refine CallsS.of_body Tryz.func133 rfl rfl rfl ?_;refine Q.r ?_;refine S.cr rfl (LenN_spec _) ?_;rintro _ _ ⟨rfl,rfl⟩;refine Q.r ?_;exact N.t rfl (Ent.refl _) ⟨rfl,rfl⟩
theorem AtN_spec (st:Int)(L:HL):CallsS Tryz.prog 152 [.pointer none,.int .u64 st] L (λv L'=>v=.tuple #[.slice none 0 0,.bool false]∧L'=L):=by
 refine CallsS.of_body Tryz.func152 rfl rfl rfl ?_;refine Q.r ?_;exact N.u rfl rfl (Ent.refl _) ⟨rfl,rfl⟩
theorem Len_spec' (p:Nat)(a:OA)(m c:Nat)(L:HL):CallsS Tryz.prog 137 [.pointer (some ⟨p,0,none⟩)] (pt p (cl [.slice a m c] 250)::L) (λv L'=>v=.int .i64 m∧L'=pt p (cl [.slice a m c] 250)::L):=by
 refine CallsS.of_body Tryz.func137 rfl rfl rfl ?_;refine Q.r ?_;exact N.t rfl (Ent.refl _) ⟨rfl,rfl⟩
theorem ChLen_spec (M:OM)(p:Nat)(vs:VL)(L:HL):CallsS Tryz.prog 137 [.pointer (some ⟨p,0,none⟩)] (chainH M p vs::L) (λv L'=>v=.int .i64 vs.length∧L'=chainH M p vs::L):=by
 refine calls_chain λa c ovs h1 h2=> ?_
 subst h1;exact (Len_spec' p a ovs.length c _).weak (Ent.refl _) (by rintro _ _ ⟨rfl,rfl⟩;exact ⟨_,chain_shut h2,by simp,rfl⟩)
theorem ChLast_spec (M:OM)(p:Nat)(vs:VL)(L:HL)(hn:vs.length≤1000000):CallsS Tryz.prog 133 [.pointer (some ⟨p,0,none⟩)] (chainH M p vs::L) (λv L'=>v=.int .u64 (lastS vs)∧L'=chainH M p vs::L):=by
 refine calls_chain λa c ovs h1 h2=> ?_
 subst h1;rw[List.length_map] at hn;refine CallsS.of_body Tryz.func133 rfl rfl rfl ?_;refine Q.r ?_;refine S.cr rfl (Len_spec' p a ovs.length c _) ?_;rintro _ _ ⟨rfl,rfl⟩
 by_cases h0:ovs.length=0
 ·have hx:ovs=[]:=List.eq_nil_of_length_eq_zero h0
  refine Q.r ?_;exact N.t rfl (chain_shut h2) ⟨by rw[hx];rfl,rfl⟩
 ·obtain ⟨o,ho⟩:=mem_get (l:=ovs) (k:=ovs.length - 1) zo
  have hl:lastS (ovs.map OV.abs)=o.id:=by
   unfold lastS;rw[List.getLast?_map,List.getLast?_eq_getElem?,ho];rfl
  refine Q.r ?_;refine swp_addr a (λha=> ?_)
  rcases ha with ha|⟨b,rfl⟩
  ·omega
  have hr:=chain_rd (p:=p) (b:=b) (c:=c) (L:=L) ho;refine D.start [] [] [0,1,2,3,4,5,6,7,8,9,10,11,12,13] _ [] rfl zk rfl zk NoPanic.no (Ent.refl _) ?_
  repeat (first|refine Q.dyn rfl rfl rfl ?_|refine Q.dyl rfl rfl rfl ?_|refine D.y rfl rfl rfl zk (by first|exact (Y.ldRj rfl (by first|assumption|exact RdC.sub (by assumption)) rfl)|exact Y.guard rfl (Y.ldRj rfl (by first|assumption|exact RdC.sub (by assumption)) rfl)) ?_|refine D.endA ?_|refine Q.dy rfl rfl rfl ?_|refine Q.dp rfl rfl rfl ?_|refine D.end_ ?_|refine Q.endH ?_|(refine D.e rfl rfl rfl ?_;(first|refine S.gskip1 rfl ?_|refine S.gskip rfl ?_|refine S.y (Y.gskipU rfl) ?_);refine opsS_nil ?_;refine N.tn ?_)|refine Q.dT rfl rfl rfl ?_|refine Q.dF rfl rfl rfl ?_|(refine D.e rfl rfl rfl ?_;(first|(refine GQ.a ?_;refine Q.al (λb1=> ?_))|(refine GQ.s ?_;refine Q.st ?_));refine opsS_nil ?_;refine N.tn ?_))
  refine Q.r ?_;exact N.t rfl (chain_shut h2) ⟨by rw[hl],rfl⟩
def aftN (vs:VL)(st:Int):Nat:=(vs.filter λv=>decide (v.1≤st)).length
theorem Search_spec (f:FuncId)(fs cs:List Value)[he:Enters Tryz.prog f](p:Nat→Bool)(m r:Nat)(A:HL)(hm:m≤4611686018427387904)(hf:∀i,i<m→CallsS Tryz.prog f (fs++[.int .i64 i]++cs) A (λv L'=>v=.bool (p i)∧L'=A))
  (hr:r≤m) (hlo:∀i,i<r→p i=false) (hhi:∀i,r≤i→i<m→p i=true):
  CallsS Tryz.prog 177 [.int .i64 m,.func (.func f) fs.toArray cs.toArray] A (λv L'=>v=.int .i64 r∧L'=A):=by
 refine CallsS.of_body Tryz.func177 rfl rfl rfl ?_;refine Q.r ?_;refine swp_loop (σ:=Nat×Nat) (λs=> [(1,.func (.func f) fs.toArray cs.toArray),(5,.int .i64 s.1),(6,.int .i64 s.2)]) (λ_=>A) (λs=>s.1≤r∧r≤s.2∧s.2≤m) (λs=>s.2 - s.1) (0,m) zt (Ent.refl _) ⟨by dsimp only;omega,by dsimp only;omega,by dsimp only;omega⟩ ?_;rintro ⟨i,j⟩ ⟨h1,h2,h3⟩;dsimp only at h1 h2 h3 ⊢
 by_cases hij:i<j
 ·refine Q.rn ?_
  refine S.y (Y.cvi rfl) ?_;rw[wrap_u64 zo zo];refine S.y (Y.shr (a:=i+j) (b:=1) rfl rfl zd) ?_;rw[show (i+j) / 2^1=(i+j) / 2 by simp];refine S.y (Y.cvi rfl) ?_;rw[wrap_i64 zo zo];obtain ⟨h,hh⟩:∃h,h=(i+j) / 2:=⟨_,rfl⟩;have hh1:i≤h:=by omega
  have hh2:h<j:=by omega
  rw[←hh];refine Q.rn ?_;refine S.crF (fs:=fs) (cs:=cs) rfl rfl (hf h zo) ?_;rintro _ _ ⟨rfl,rfl⟩
  cases hp:p h with
  |true=>
   have hrh:r≤h:=by
    by_cases hc:r≤h
    ·exact hc
    ·rw[hlo h zo] at hp;cases hp
   refine Q.rn ?_;exact ⟨(i,h),zt,Ent.refl _,⟨h1,hrh,by dsimp only;omega⟩,by dsimp only;omega⟩
  |false=>
   have hrh:h<r:=by
    by_cases hc:h<r
    ·exact hc
    ·rw[hhi h zo zo] at hp;cases hp
   refine Q.rn ?_;exact ⟨(h+1,j),zt,Ent.refl _,⟨hrh,h2,h3⟩,by dsimp only;omega⟩
 ·have:i=r:=by omega
  subst this;refine Q.rn ?_;exact N.t rfl (Ent.refl _) ⟨rfl,rfl⟩
def sortedV (vs:VL):Prop:=(vs.map (·.1)).Pairwise (· < ·)
theorem aft_lo :∀{vs:VL} {st:Int},sortedV vs→∀i v,i<aftN vs st→vs[i]? =some v→v.1≤st
 | [],_,_,_,_,_,h=>by simp at h
 |x::t,st,hs,i,v,hi,h=>by
  unfold sortedV at hs;rw[List.map_cons,List.pairwise_cons] at hs;unfold aftN at hi
  by_cases hx:x.1≤st
  ·cases i with
   |zero=>simp at h;subst h;exact hx
   |succ i=>
    simp[hx] at hi
    exact aft_lo (vs:=t) hs.2 i v hi (by simpa using h)
  ·have:t.filter (λv=>decide (v.1≤st))=[]:=by
    rw[List.filter_eq_nil_iff];intro y hy;have:=hs.1 y.1 (List.mem_map_of_mem hy)
    simp;omega
   simp[hx,this] at hi
theorem aft_hi :∀{vs:VL} {st:Int},sortedV vs→∀i v,aftN vs st≤i→vs[i]? =some v→st<v.1
 | [],_,_,_,_,_,h=>by simp at h
 |x::t,st,hs,i,v,hi,h=>by
  unfold sortedV at hs;rw[List.map_cons,List.pairwise_cons] at hs;unfold aftN at hi
  by_cases hx:x.1≤st
  ·cases i with
   |zero=>simp[hx] at hi
   |succ i=>
    simp[hx] at hi
    exact aft_hi (vs:=t) hs.2 i v hi (by simpa using h)
  ·cases i with
   |zero=>simp at h;subst h;omega
   |succ i=>
    have:=hs.1 v.1 (List.mem_map_of_mem (List.mem_of_getElem? (by simpa using h)));omega
theorem aft_le (vs:VL)(st:Int):aftN vs st≤vs.length:=List.length_filter_le _ _
instance : Enters Tryz.prog 178:=en178
theorem after1_spec (b2 b3 p b c i:Nat)(st:Int)(ovs:List OV)(o:OV)(L:HL)(ho:ovs[i]? =some o):
  CallsS Tryz.prog 178 ([]++[.int .i64 i]++[.pointer (some ⟨b2,0,none⟩),.pointer (some ⟨b3,0,none⟩)])
   (pt b3 (cl [.int .u64 st] 31)::pt b2 (cl [.pointer (some ⟨p,0,none⟩)] 197)::pt p (cl [.slice (some ⟨b,0,none⟩) ovs.length c] 250)::slO 116 2 (some ⟨b,0,none⟩) ovs.length c (ovs.flatMap OV.cells)::L)
   (λv L'=>v=.bool (decide (st<o.id))∧L'=pt b3 (cl [.int .u64 st] 31)::pt b2 (cl [.pointer (some ⟨p,0,none⟩)] 197)::pt p (cl [.slice (some ⟨b,0,none⟩) ovs.length c] 250)::slO 116 2 (some ⟨b,0,none⟩) ovs.length c (ovs.flatMap OV.cells)::L):=by
 refine CallsS.of_body Tryz.func178 rfl rfl rfl ?_;have hi:i<ovs.length:=(List.getElem?_eq_some_iff.1 ho).1;have hr:=chain_rd (p:=p) (b:=b) (c:=c) (L:=L) ho;refine Q.r ?_;refine D.start [] [] [0,1,2,3,4,5,6,7,8,9,10] _ [] rfl zk rfl zk NoPanic.no (Ent.refl _) ?_
 repeat (first|refine Q.dyn rfl rfl rfl ?_|refine Q.dyl rfl rfl rfl ?_|refine D.y rfl rfl rfl zk (by first|exact (Y.ldRj rfl (by first|assumption|exact RdC.sub (by assumption)) rfl)|exact Y.guard rfl (Y.ldRj rfl (by first|assumption|exact RdC.sub (by assumption)) rfl)) ?_|refine D.endA ?_|refine Q.dy rfl rfl rfl ?_|refine Q.dp rfl rfl rfl ?_|refine D.end_ ?_|refine Q.endH ?_|(refine D.e rfl rfl rfl ?_;(first|refine S.gskip1 rfl ?_|refine S.gskip rfl ?_|refine S.y (Y.gskipU rfl) ?_);refine opsS_nil ?_;refine N.tn ?_)|refine Q.dT rfl rfl rfl ?_|refine Q.dF rfl rfl rfl ?_|(refine D.e rfl rfl rfl ?_;(first|(refine GQ.a ?_;refine Q.al (λb1=> ?_))|(refine GQ.s ?_;refine Q.st ?_));refine opsS_nil ?_;refine N.tn ?_))
 refine Q.r ?_;exact N.t rfl (Ent.refl _) ⟨rfl,rfl⟩
theorem after_spec' (p:Nat)(a:OA)(c:Nat)(ovs:List OV)(st:Int)(L:HL)(hs:sortedV (ovs.map OV.abs))(hn:ovs.length≤1000000):
  CallsS Tryz.prog 165 [.pointer (some ⟨p,0,none⟩),.int .u64 st] (pt p (cl [.slice a ovs.length c] 250)::slO 116 2 a ovs.length c (ovs.flatMap OV.cells)::L)
   (λv L'=>v=.int .i64 (aftN (ovs.map OV.abs) st)∧L'=pt p (cl [.slice a ovs.length c] 250)::slO 116 2 a ovs.length c (ovs.flatMap OV.cells)::L):=by
 refine CallsS.addr a λha=> ?_
 refine CallsS.of_body Tryz.func165 rfl rfl rfl ?_;refine Q.r ?_;(repeat (intro b1;refine Q.r ?_));rename_i b2;refine S.y (Y.mf rfl rfl) ?_;have hmap:∀(i:Nat) (o:OV),ovs[i]? =some o→(ovs.map OV.abs)[i]? =some (o.id,o.vec):=λi o h=>by rw[List.getElem?_map,h];rfl
 refine S.cr rfl (Search_spec 178 [] [.pointer (some ⟨b2,0,none⟩),.pointer (some ⟨b1,0,none⟩)] (λi=>match ovs[i]? with|some o=>decide (st<o.id)|none=>false) ovs.length (aftN (ovs.map OV.abs) st) _ zo ?_ (by have:=aft_le (ovs.map OV.abs) st;simpa using this) ?_ ?_) ?_
 ·intro i hi
  obtain ⟨o,ho⟩:=mem_get hi
  rcases ha with ha|⟨b,rfl⟩
  ·omega
  have:=after1_spec b2 b1 p b c i st ovs o L ho
  simpa only[ho] using this
 ·intro i hi
  cases ho:ovs[i]? with
  |none=>rfl
  |some o=>
   have:=aft_lo hs i _ hi (hmap i o ho);simp only[decide_eq_false_iff_not];dsimp only at this;omega
 ·intro i hi hlt
  obtain ⟨o,ho⟩:=mem_get hlt;have:=aft_hi hs i _ hi (hmap i o ho);rw[ho]
  simpa using this
 rintro _ _ ⟨rfl,rfl⟩;refine Q.r ?_;exact N.t rfl (Ent.drop (Ent.drop (Ent.refl _))) ⟨rfl,rfl⟩
def atV (vs:VL)(st:Int):List Int:=if aftN vs st=0 then [] else ((vs[aftN vs st - 1]?).map (·.2)).getD []
theorem ChAt_spec (M:OM)(p:Nat)(vs:VL)(st:Int)(L:HL)(hs:sortedV vs)(hn:vs.length≤1000000)(hv:∀v∈vs,v.2.length≤1000000):
  CallsS Tryz.prog 152 [.pointer (some ⟨p,0,none⟩),.int .u64 st] (chainH M p vs::roM M::L)
   (λv L'=>∃a c,v=.tuple #[.slice a (atV vs st).length c,.bool (decide (0<(atV vs st).length))]∧L'=slO 21 1 a (atV vs st).length c ((atV vs st).map I32)::chainH M p vs::roM M::L):=by
 refine calls_chain λa c ovs h1 h2=> ?_
 subst h1;rw[List.length_map] at hn;refine CallsS.addr a λha=> ?_
 refine CallsS.of_body Tryz.func152 rfl rfl rfl ?_;refine Q.r ?_;refine S.cr rfl (after_spec' p a c ovs st (roM M::L) hs hn) ?_;rintro _ _ ⟨rfl,rfl⟩;have hle:=aft_le (ovs.map OV.abs) st;rw[List.length_map] at hle;unfold atV;obtain ⟨n,hnn⟩:∃n,n=aftN (ovs.map OV.abs) st:=⟨_,rfl⟩;rw[←hnn] at hle ⊢
 by_cases h0:n=0
 ·subst h0
  refine Q.r ?_;exact N.u rfl rfl (Ent.trans slO_nil (Ent.cons (chain_shut h2))) ⟨none,0,rfl,rfl⟩
 rw[if_neg h0];obtain ⟨o,ho⟩:=mem_get (l:=ovs) (k:=n - 1) zo;have hat:(((ovs.map OV.abs)[n - 1]?).map (·.2)).getD []=o.vec:=by rw[List.getElem?_map,ho];rfl
 rw[hat];have hmo:o∈ovs:=List.mem_of_getElem? ho
 rcases ha with ha|⟨b,rfl⟩
 ·omega
 have hr:=chain_rd (p:=p) (b:=b) (c:=c) (L:=roM M::L) ho;have hvl:o.vec.length≤1000000:=hv o.abs (List.mem_map_of_mem hmo)
 by_cases hz:o.vec.length=0
 ·have hz':o.vec=[]:=List.eq_nil_of_length_eq_zero hz
  refine Q.rd6 ?_;rw[hz'];exact N.u rfl rfl (Ent.trans slO_nil (Ent.cons (chain_shut h2))) ⟨none,0,rfl,rfl⟩
 ·refine Q.rd6 ?_
  refine S.cr rfl (CloneI_spec o.a o.c o.vec _ ((h2 o hmo).rd) hvl) ?_;rintro _ _ ⟨a',c',rfl,rfl⟩;refine Q.r ?_;exact N.u rfl rfl (Ent.cons (chain_shut h2)) ⟨a',c',by rw[decide_eq_true (show 0<o.vec.length by omega)],rfl⟩
theorem ChCopy_spec (o:OV)(A:HL)(h:RdS A o.a o.vec.length 1 (o.vec.map I32))(hn:o.vec.length≤1000000):
  CallsS Tryz.prog 163 [o.val] A (λv L'=>∃a c,v=OV.val ⟨o.id,a,c,o.vec⟩∧L'=slO 21 1 a o.vec.length c (o.vec.map I32)::A):=by
 refine CallsS.of_body Tryz.func163 rfl rfl rfl ?_;refine Q.r ?_;(repeat (intro b1;refine Q.r ?_));refine S.cr rfl (CloneI_spec o.a o.c o.vec _ h.sub hn) ?_;rintro _ _ ⟨a',c',rfl,rfl⟩;refine Q.r ?_;exact N.r1 RV.c (Ent.cons (Ent.drop (Ent.drop (Ent.refl _)))) ⟨a',c',rfl,rfl⟩
class PickCh (p:Nat)(L:HL)(M:outParam (OM))(vs:outParam VL)(L0:outParam (HL)):Prop where
 ent:Ent L (chainH M p vs::L0)
instance PickCh.here {p:Nat}{L:HL}{M:OM}{vs:VL}:PickCh p (chainH M p vs::L) M vs L:=⟨Ent.refl _⟩
instance (priority :=low) PickCh.there {p:Nat} {A:HP} {L L0:HL} {M:OM} {vs:VL} [h:PickCh p L M vs L0]:PickCh p (A::L) M vs (A::L0):=⟨(h.ent.cons).trans (Ent.perm (.swap _ _ _))⟩
section
variable {n : Nat} {ops rest : List Oper} {cd : Code} {Q : Post} {f : Env} {L L0 : HL} {M : OM} {vs : VL}
theorem swp_chain (p:Nat)[hp:PickCh p L M vs L0](h:∀a c ovs,ovs.map OV.abs=vs→okR M ovs→swp Tryz.prog n cd Q f (pt p (cl [.slice a ovs.length c] 250)::slO 116 2 a ovs.length c (ovs.flatMap OV.cells)::L0)):swp Tryz.prog n cd Q f L:=
 swp_ent hp.ent (swp_ex λx=>swp_all (swp_pure λhx=>h x.1.1 x.1.2 x.2 hx.1 hx.2))
theorem S.cch {d:Tmp}{ty:TypeId}{pos:String}{af:Array Edge}{g:FuncId}{xs:Array Operand}{ats:Array TypeId}{args:List Value}{R:Value→HL→Prop}(p:Nat)[hp:PickCh p L M vs L0][he:Enters Tryz.prog g](hx:argsL f xs.toList=some args)(hc:CallsS Tryz.prog g args (chainH M p vs::L0) R)(hk:∀v L',R v L'→opsS Tryz.prog n ops rest Q (upd f d v) L'):
  opsS Tryz.prog n ops (⟨some d,.call ⟨.value (.func g),xs,ats⟩,ty,pos,af,none⟩::rest) Q f L:=opsS_ent hp.ent (S.cr hx hc hk)
end
def putE (vs:VL)(st:Int)(vec:List Int):Int:=
 if st=0∨1099511627776<st then 1 else if 0<vec.length∧rightV vec=false then 4 else if st≤lastS vs then 7 else 0
theorem Put_spec (M:OM)(p:Nat)(vs:VL)(o:OV)(A:HL)(h:RdS (roM M::A) o.a o.vec.length 1 (o.vec.map I32))(hv:o.vec.length≤1000000)(hn:vs.length≤1000000):
  CallsS Tryz.prog 134 [.pointer (some ⟨p,0,none⟩),o.val] (chainH M p vs::roM M::A)
   (λv L'=>v=.int .i64 (putE vs o.id o.vec)∧(putE vs o.id o.vec≠0→L'=chainH M p vs::roM M::A)∧(putE vs o.id o.vec=0→∃M',leM M M'∧L'=chainH M' p (vs++[o.abs])::roM M'::A)):=by
 have hsub:Sub (roM M::A) (chainH M p vs::roM M::A):=inferInstance;unfold putE;refine CallsS.of_body Tryz.func134 rfl rfl rfl ?_
 by_cases h1:o.id=0∨1099511627776<o.id
 ·rw[if_pos h1]
  by_cases h1a:o.id=0
  ·refine Q.r ?_;(repeat (intro b1;refine Q.r ?_))
   exact N.t rfl (Ent.drop (Ent.refl _)) ⟨rfl,λ_=>rfl,λh=>by cases h⟩
  ·refine Q.r ?_;(repeat (intro b1;refine Q.r ?_))
   exact N.t rfl (Ent.drop (Ent.refl _)) ⟨rfl,λ_=>rfl,λh=>by cases h⟩
 rw[if_neg h1];have key:∀(f:Env) (cd:Code) (b1:Nat),True:=λ_ _ _=>trivial
 by_cases h2:0<o.vec.length∧rightV o.vec=false
 ·rw[if_pos h2]
  obtain ⟨h2a,h2b⟩:=h2;refine Q.r ?_;(repeat (intro b1;refine Q.r ?_));refine S.cr rfl (Right_spec o.a o.c o.vec _ h.sub zo) ?_;rintro _ _ ⟨rfl,rfl⟩;rw[h2b];refine Q.r ?_;exact N.t rfl (Ent.drop (Ent.refl _)) ⟨rfl,λ_=>rfl,λh=>by cases h⟩
 rw[if_neg h2];refine swp_seq ?_;refine swp_region ?_;(repeat (first|(refine GQ.y ?_;refine Q.y ?_)|(refine GQ.a ?_;refine Q.al (λb1=> ?_))|(refine GQ.s ?_;refine Q.st ?_)|(refine GQ.g ?_;refine Q.gq ?_)));refine opsS_nil ?_;first|refine N.tn ?_|skip
 refine swp_seq ?_;refine swp_block ?_;have hret:∀(Q:Prop),Q→True:=λ_ _=>trivial
 by_cases h3:o.id≤lastS vs
 ·rw[if_pos h3]
  by_cases h0:0<o.vec.length
  ·have hr:rightV o.vec=true:=by
    cases hr:rightV o.vec with
    |true=>rfl
    |false=>exact absurd ⟨h0,hr⟩ h2
   refine Q.r ?_;refine S.cr rfl (Right_spec o.a o.c o.vec _ h.sub zo) ?_;rintro _ _ ⟨rfl,rfl⟩;rw[hr];refine Q.r ?_;refine Q.dgo [true,false,false] [3] [] [0,1,2,3,4,5] ?_;refine Q.rd ?_;refine D.e rfl rfl rfl ?_;refine S.cr rfl (ChLast_spec M p vs _ hn) ?_;rintro _ _ ⟨rfl,rfl⟩;refine Q.r ?_;refine Q.rd ?_;refine Q.r ?_;exact N.t rfl (Ent.pick (Ent.drop (Ent.refl _))) ⟨rfl,λ_=>rfl,λh=>by cases h⟩
  ·refine Q.r ?_
   refine Q.dgo [true,false,false] [3] [] [0,1,2,3,4,5] ?_;refine Q.rd ?_;refine D.e rfl rfl rfl ?_;refine S.cr rfl (ChLast_spec M p vs _ hn) ?_;rintro _ _ ⟨rfl,rfl⟩;refine Q.r ?_;refine Q.rd ?_;refine Q.r ?_;exact N.t rfl (Ent.pick (Ent.drop (Ent.refl _))) ⟨rfl,λ_=>rfl,λh=>by cases h⟩
 rw[if_neg h3];refine swp_cutB (σ:=Unit) (λ_=> [(0,.pointer (some ⟨p,0,none⟩)),(3,.pointer (some ⟨b1,0,none⟩))]) (λ_=>chainH M p vs::pt b1 (cl o.cells 116)::roM M::A) (λ_=>True) ?_ ?_
 ·by_cases h0:0<o.vec.length
  ·have hr:rightV o.vec=true:=by
    cases hr:rightV o.vec with
    |true=>rfl
    |false=>exact absurd ⟨h0,hr⟩ h2
   refine Q.r ?_;refine S.cr rfl (Right_spec o.a o.c o.vec _ h.sub zo) ?_;rintro _ _ ⟨rfl,rfl⟩;rw[hr];refine Q.r ?_;refine Q.dgo [true,false,false] [3] [] [0,1,2,3,4,5] ?_;refine Q.rd ?_;refine D.e rfl rfl rfl ?_;refine S.cr rfl (ChLast_spec M p vs _ hn) ?_;rintro _ _ ⟨rfl,rfl⟩;refine Q.r ?_;refine Q.rd ?_;refine Q.r ?_;exact ⟨(),zt,by exact eG,trivial⟩
  ·refine Q.r ?_
   refine Q.dgo [true,false,false] [3] [] [0,1,2,3,4,5] ?_;refine Q.rd ?_;refine D.e rfl rfl rfl ?_;refine S.cr rfl (ChLast_spec M p vs _ hn) ?_;rintro _ _ ⟨rfl,rfl⟩;refine Q.r ?_;refine Q.rd ?_;refine Q.r ?_;exact ⟨(),zt,by exact eG,trivial⟩
 rintro _ _;refine swp_chain p (λa c ovs e1 e2=> ?_);subst e1;rw[List.length_map] at hn;refine Q.r ?_;refine Q.dgo [true,false,true,false] [6,7,8,11] [11] [0,1,2,3,4,5,6,7,8,9,10,11] ?_;refine Q.rd ?_;refine D.e rfl rfl rfl ?_;refine S.cr rfl (ChCopy_spec o _ h.sub hv) ?_;rintro _ _ ⟨a',c',rfl,rfl⟩;refine Q.r ?_;refine Q.rd ?_;(repeat (intro b1;refine Q.rd ?_));refine D.e rfl rfl rfl ?_;refine S.app rfl rfl (SrcS.sl RdC.row zr zr) zr zo zo (λa2 c2=> ?_);refine Q.r ?_;refine Q.rd ?_;refine Q.dc rfl rfl rfl rfl ?_;refine Q.r ?_;refine Q.rd ?_;refine N.tn ?_;refine swp_abs a' (λM' hl hs=> ?_);refine Q.r ?_;have hok:okR M' (ovs++[⟨o.id,a',c',o.vec⟩]):=λu hu=>by
  rcases List.mem_append.1 hu with hu|hu
  ·exact (e2 u hu).mono hl
  ·obtain rfl:=List.mem_singleton.1 hu
   exact hs
 refine N.t rfl (L':=chainH M' p (ovs.map OV.abs++[o.abs])::roM M'::A) ?_ ⟨rfl,λh=>absurd rfl h,λ_=>⟨M',hl,rfl⟩⟩;have:=chain_shut (p:=p) (a:=a2) (c:=c2) (L:=roM M'::A) hok;rw[len_snoc,flat_snoc,List.map_append] at this;refine Ent.trans ?_ this;exact eG
theorem ChNew0_spec (M:OM)(L:HL):CallsS Tryz.prog 97 [.slice none 0 0] L (λv L'=>∃p,v=.tuple #[.pointer (some ⟨p,0,none⟩),.int .i64 0]∧L'=chainH M p []::L):=by
 refine CallsS.of_body Tryz.func97 rfl rfl rfl ?_;refine Q.r ?_;(repeat (intro b1;refine Q.r ?_));refine swp_loop (σ:=Unit) (λk=> [(4,.pointer (some ⟨b1,0,none⟩)),(11,.int .i64 0),(12,.int .i64 0)]) (λ_=>pt b1 (cl [.slice none 0 0] 250)::L) (λk=>True) (λk=>0) () zt eG trivial ?_;intro _ _;refine Q.r ?_;refine N.u rfl rfl (Ent.trans (Ent.cons (slO_nil (t:=116) (sz:=2))) ?_) ⟨b1,rfl,rfl⟩;exact chain_shut (M:=M) (p:=b1) (a:=none) (c:=0) (ovs:=[]) (L:=L) (by intro o ho;cases ho)
theorem List_spec (M:OM)(p:Nat)(vs:VL)(L:HL)(hn:vs.length≤1000000)(hv:∀v∈vs,v.2.length≤1000000):
  CallsS Tryz.prog 146 [.pointer (some ⟨p,0,none⟩)] (chainH M p vs::roM M::L)
   (λv L'=>∃(a:OA) (c:Nat) (ovs:List OV),ovs.map OV.abs=vs∧v=.slice a ovs.length c∧L'=slO 116 2 a ovs.length c (ovs.flatMap OV.cells)::bodV 21 (ovs.map λo=>(o.a,o.c,o.vec.map I32))::chainH M p vs::roM M::L):=by
 refine calls_chain λa c ovs h1 h2=> ?_
 subst h1;rw[List.length_map] at hn;refine CallsS.addr a λha=> ?_
 refine CallsS.of_body Tryz.func146 rfl rfl rfl ?_;refine Q.r ?_;refine swp_loop (σ:=Nat×OA×Nat×List OV) (λs=> [(11,.slice a ovs.length c),(12,.int .i64 ovs.length),(3,.slice s.2.1 s.2.2.2.length s.2.2.1),(13,.int .i64 s.1)])
  (λs=>pt p (cl [.slice a ovs.length c] 250)::slO 116 2 a ovs.length c (ovs.flatMap OV.cells)::slO 116 2 s.2.1 s.2.2.2.length s.2.2.1 (s.2.2.2.flatMap OV.cells)::bodV 21 (s.2.2.2.map λo=>(o.a,o.c,o.vec.map I32))::roM M::L)
  (λs=>s.1≤ovs.length∧s.2.2.2.map OV.abs=(ovs.take s.1).map OV.abs) (λs=>ovs.length - s.1) (0,none,0,[]) zt ?_ ⟨by omega,by simp⟩ ?_
 ·refine Ent.cons (Ent.cons (Ent.trans ?_ slO_nil))
  exact bodV_nil
 rintro ⟨k,a3,c3,us⟩ ⟨hk,hus⟩;dsimp only at hk hus ⊢;have hul:us.length=k:=by
  have:=congrArg List.length hus
  simp at this;omega
 by_cases hlt:k<ovs.length
 ·obtain ⟨o,ho⟩:=mem_get hlt
  have hmo:o∈ovs:=List.mem_of_getElem? ho
  rcases ha with ha|⟨b,rfl⟩
  ·omega
  have hr:=chain_rd (p:=p) (b:=b) (c:=c) (L:=slO 116 2 a3 us.length c3 (us.flatMap OV.cells)::bodV 21 (us.map λo=>(o.a,o.c,o.vec.map I32))::roM M::L) ho;refine Q.r ?_;(repeat (intro b1;refine Q.r ?_));refine S.cr rfl (ChCopy_spec o _ ((h2 o hmo).rd) (hv o.abs (List.mem_map_of_mem hmo))) ?_;rintro _ _ ⟨a',c',rfl,rfl⟩;refine Q.r ?_;(repeat (intro b1;refine Q.r ?_));refine S.app rfl rfl (SrcS.sl RdC.row zr zr) zr zo zo (λa4 c4=> ?_);refine Q.r ?_;refine ⟨(k+1,a4,c4,us++[⟨o.id,a',c',o.vec⟩]),⟨rfl,rfl,congrArg some (by simp),rfl,trivial⟩,?_,⟨by dsimp only;omega,by dsimp only;rw[List.map_append,hus,take_snoc ho,List.map_append];rfl⟩,by dsimp only;omega⟩;dsimp only;rw[len_snoc,flat_snoc,List.map_append,List.map_cons,List.map_nil];refine Ent.pick (Ent.pick (Ent.pick ?_));refine Ent.trans ?_ (bodV_snoc (m:=o.vec.length) (by simp));exact eG
 ·have hke:k=ovs.length:=by omega
  subst hke;rw[List.take_length] at hus;refine Q.r ?_;refine N.t rfl ?_ ⟨a3,c3,us,hus,rfl,rfl⟩;exact Ent.pick (Ent.pick (chain_shut h2))
structure IV where
 txn:Int
 after:Int
 a:OA
 c:Nat
 ops:List OV
abbrev IV.cells (i:IV):List Value:=[.int .u64 i.txn,.int .u64 i.after,.slice i.a i.ops.length i.c]
abbrev IV.val (i:IV):Value:=.agg #[.int .u64 i.txn,.int .u64 i.after,.slice i.a i.ops.length i.c]
abbrev IV.abs (i:IV):Int×Int×VL:=(i.txn,i.after,i.ops.map OV.abs)
def RdO (A:HL)(a:OA)(ops:List OV):Prop:=RdS A a ops.length 2 (ops.flatMap OV.cells)∧∀o∈ops,RdS A o.a o.vec.length 1 (o.vec.map I32)
theorem RdO.sub {A L:HL}{a:OA}{ops:List OV}(h:RdO A a ops)[s:Sub A L]:RdO L a ops:=⟨h.1.sub,λo ho=>(h.2 o ho).sub⟩
def okI (M:OM)(i:IV):Prop:=SlM M i.a i.ops.length 2 (i.ops.flatMap OV.cells)∧okR M i.ops
theorem okI.rd {M:OM}{i:IV}(h:okI M i){L:HL}[HasM M L]:RdO L i.a i.ops:=⟨h.1.rd,λo ho=>(h.2 o ho).rd⟩
theorem okI.mono {M M':OM}{i:IV}(h:okI M i)(hl:leM M M'):okI M' i:=⟨h.1.mono hl,λo ho=>(h.2 o ho).mono hl⟩
def holdsV (ops:VL)(id:Int):Bool:=ops.any λo=>decide (o.1=id)
theorem holds_abs (ops:List OV)(id:Int):holdsV (ops.map OV.abs) id=ops.any λo=>decide (o.id=id):=by simp[holdsV,List.any_map];rfl
instance : Enters Tryz.prog 168:=en168
instance : Enters Tryz.prog 144:=en144
theorem holds1_spec (b:Nat)(id:Int)(o:OV)(A:HL):CallsS Tryz.prog 168 ([]++[o.val]++[.pointer (some ⟨b,0,none⟩)]) (pt b (cl [.int .u64 id] 31)::A) (λv L'=>v=.bool (decide (o.id=id))∧L'=pt b (cl [.int .u64 id] 31)::A):=by
 refine CallsS.of_body Tryz.func168 rfl rfl rfl ?_;refine Q.r ?_;(repeat (intro b1;refine Q.r ?_));exact N.t rfl (Ent.drop (Ent.refl _)) ⟨rfl,rfl⟩
theorem holds_spec (i:IV)(id:Int)(A:HL)(h:RdO A i.a i.ops)(hn:i.ops.length≤1000000):
  CallsS Tryz.prog 144 [i.val,.int .u64 id] A (λv L'=>v=.bool (holdsV (i.ops.map OV.abs) id)∧L'=A):=by
 refine CallsS.of_body Tryz.func144 rfl rfl rfl ?_;refine Q.r ?_;(repeat (intro b1;refine Q.r ?_));refine S.y (Y.mf rfl rfl) ?_;refine S.cr rfl (HasO_spec 168 [] [.pointer (some ⟨b1,0,none⟩)] (λo=>decide (o.id=id)) i.a i.c i.ops _ h.1.sub zo (λo ho=>holds1_spec b1 id o _)) ?_;rintro _ _ ⟨rfl,rfl⟩;refine Q.r ?_;exact N.t rfl (Ent.drop (Ent.drop (Ent.refl _))) ⟨by rw[holds_abs],rfl⟩
def badO (dim:Int)(o:Int×List Int):Bool:=decide (1099511627776<o.1)||(decide (0<o.2.length)&&(!rightV o.2||decide ((o.2.length:Int)≠dim)))
def checkV (dim:Int)(ops:VL):Int:=
 if dim<1∨8<dim then 1 else if ops.length=0 then 2 else if 16<ops.length then 3 else if ops.any (badO dim) then 4 else if (ops.map (·.1)).Nodup then 0 else 7
theorem lkL_put {κ α:Type}[DecidableEq κ]{m:List (κ×α)}(h:keysOK m)(x y:κ)(a:α):lkL (putL m x a) y=if y=x then some a else lkL m y:=by
 rcases keyCase m h x with ⟨p,b,q,rfl,hp,hq⟩|hn
 ·rw[putL_mid hp hq]
  by_cases hxy:y=x
  ·subst hxy;rw[if_pos rfl,lkL_mid hp]
  ·rw[if_neg hxy]
   unfold lkL
   simp[List.find?_append,List.find?_cons,Ne.symm hxy]
 ·rw[putL_none hn]
  by_cases hxy:y=x
  ·subst hxy
   rw[if_pos rfl];have:m.find? (λu=>decide (u.1=y))=none:=by simp;exact λa b hh=>hn (a,b) hh
   simp[lkL,List.find?_append,this]
  ·rw[if_neg hxy]
   unfold lkL
   simp[List.find?_append,List.find?_cons,Ne.symm hxy]
theorem Check_spec (dim:Int)(a:OA)(c:Nat)(ops:List OV)(A:HL)(h:RdO A a ops)(hn:ops.length≤1000000)(hv:∀o∈ops,o.vec.length≤1000000)(hd: -9223372036854775808≤dim∧dim≤9223372036854775807):
  CallsS Tryz.prog 34 [.int .i64 dim,.slice a ops.length c] A (λv L'=>v=.int .i64 (checkV dim (ops.map OV.abs))∧L'=A):=by
 unfold checkV;rw[List.length_map];refine CallsS.of_body Tryz.func34 rfl rfl rfl ?_
 by_cases h1:dim<1∨8<dim
 ·rw[if_pos h1]
  by_cases h1a:dim<1
  ·refine Q.r ?_
   exact N.t rfl (Ent.refl _) ⟨rfl,rfl⟩
  ·refine Q.r ?_
   exact N.t rfl (Ent.refl _) ⟨rfl,rfl⟩
 rw[if_neg h1]
 by_cases h2:ops.length=0
 ·rw[if_pos h2]
  refine Q.r ?_;exact N.t rfl (Ent.refl _) ⟨rfl,rfl⟩
 rw[if_neg h2]
 by_cases h3:16<ops.length
 ·rw[if_pos h3]
  refine Q.r ?_;exact N.t rfl (Ent.refl _) ⟨rfl,rfl⟩
 rw[if_neg h3];refine Q.r ?_;refine S.mkm U64 Value.bool (λb=> ?_);refine Q.r ?_;refine swp_loop (σ:=Nat×Bool×List (Int×Bool)) (λs=> [(0,.int .i64 dim),(5,.map (some b)),(25,.slice a ops.length c),(26,.int .i64 ops.length),(6,.bool s.2.1),(27,.int .i64 s.1)])
  (λs=>mpO U64 Value.bool b s.2.2::A) (λs=>s.1≤ops.length∧keysOK s.2.2∧(∀y,lkL s.2.2 y=if y∈(ops.take s.1).map (·.id) then some true else none)∧s.2.1= !decide (((ops.take s.1).map (·.id)).Nodup)∧(ops.take s.1).any (λo=>badO dim o.abs)=false)
  (λs=>ops.length - s.1) (0,false,[]) zt (Ent.refl _) ⟨by omega,by simp[keysOK],by intro y;simp[lkL],by simp,by simp⟩ ?_
 rintro ⟨k,tw,m⟩ ⟨k1,k2,k3,k4,k5⟩;dsimp only at k1 k2 k3 k4 k5 ⊢
 by_cases hlt:k<ops.length
 ·obtain ⟨o,ho⟩:=mem_get hlt
  have hmo:o∈ops:=List.mem_of_getElem? ho;have hlen:=hv o hmo;obtain ⟨b2,o2,rfl,hr⟩:=RdS.elem (g:=OV.cells) (λ_=>rfl) h.1 ho rfl;have hbad:badO dim o.abs=true→(ops.map OV.abs).any (badO dim)=true:=λhb=>List.any_eq_true.2 ⟨o.abs,List.mem_map_of_mem hmo,hb⟩
  have hall:(ops.map OV.abs).any (badO dim)=true↔(ops.any λo=>badO dim o.abs)=true:=by rw[List.any_map];rfl
  repeat (first|(refine GQ.y ?_;refine Q.y ?_)|refine Q.go ?_|(refine GQ.g ?_;refine Q.gq ?_)|(refine GQ.s ?_;refine Q.st ?_)|(refine GQ.a ?_;refine Q.al (λb1=> ?_)))
  refine Q.ct rfl ?_
  repeat (first|(refine GQ.y ?_;refine Q.y ?_)|refine Q.go ?_|(refine GQ.g ?_;refine Q.gq ?_)|(refine GQ.s ?_;refine Q.st ?_)|(refine GQ.a ?_;refine Q.al (λb1=> ?_)))
  refine opsS_cutT (σ:=Bool) (λs=> [(0,.int .i64 dim),(5,.map (some b)),(25,.slice (some ⟨b2,o2,none⟩) ops.length c),(26,.int .i64 ops.length),(6,.bool tw),(27,.int .i64 k),(8,.pointer (some ⟨b1,0,none⟩)),(52,.bool s)])
   (λs=>pt b1 (cl o.cells 119)::mpO U64 Value.bool b m::A) (λs=>s=badO dim o.abs) ?_ ?_
  ·by_cases c1:1099511627776<o.id
   ·refine Q.r ?_
    exact ⟨true,zt,Ent.refl _,by simp[badO,c1]⟩
   by_cases c2:0<o.vec.length
   ·refine Q.r ?_
    refine S.cr rfl (Right_spec o.a o.c o.vec _ ((h.2 o hmo).sub) zo) ?_;rintro _ _ ⟨rfl,rfl⟩
    cases hrt:rightV o.vec with
    |false=>
     refine Q.r ?_;exact ⟨true,zt,Ent.refl _,by simp[badO,c1,c2,hrt]⟩
    |true=>
     refine Q.r ?_;exact ⟨_,zt,Ent.refl _,by simp[badO,c1,c2,hrt]⟩
   ·refine Q.r ?_
    exact ⟨false,zt,Ent.refl _,by simp[badO,c1,c2]⟩
  intro s hs
  cases s with
  |true=>
   rw[if_pos (hbad hs.symm)];refine Q.r ?_;exact N.t rfl (Ent.drop (Ent.drop (Ent.refl _))) ⟨rfl,rfl⟩
  |false=>
   have hex:swp Tryz.prog Tryz.f34.ntmps Code.skip (λ_ _ _=>True) e0 []:=swp_skip trivial;clear hex hbad hall;have htk:(ops.take (k+1)).map (·.id)=(ops.take k).map (·.id)++[o.id]:=by rw[take_snoc ho,List.map_append];rfl
   have hnd:((ops.take (k+1)).map (·.id)).Nodup↔((ops.take k).map (·.id)).Nodup∧o.id∉(ops.take k).map (·.id):=by
    rw[htk,List.nodup_append]
    constructor
    ·rintro ⟨a1,_,a2⟩
     exact ⟨a1,λhm=>a2 _ hm _ (by simp) rfl⟩
    ·rintro ⟨a1,a2⟩
     exact ⟨a1,by simp,λx hx y hy e=>by simp at hy;subst hy;exact a2 (e▸hx)⟩
   have hm':∀y,lkL (putL m o.id true) y=if y∈(ops.take (k+1)).map (·.id) then some true else none:=λy=>by
    rw[lkL_put k2,htk,k3]
    by_cases hy:y=o.id
    ·subst hy;simp
    ·simp[hy]
   have hb5:(ops.take (k+1)).any (λo=>badO dim o.abs)=false:=by
    rw[take_snoc ho,List.any_append,k5,List.any_cons,←hs];rfl
   cases tw with
   |true=>
    have hd0:¬((ops.take k).map (·.id)).Nodup:=λhh=>by rw[decide_eq_true hh] at k4;cases k4
    repeat (first|(refine GQ.y ?_;refine Q.y ?_)|refine Q.go ?_|(refine GQ.g ?_;refine Q.gq ?_)|(refine GQ.s ?_;refine Q.st ?_)|(refine GQ.a ?_;refine Q.al (λb1=> ?_)))
    refine S.mu rfl rfl rfl ?_
    repeat (first|(refine GQ.y ?_;refine Q.y ?_)|refine Q.go ?_|(refine GQ.g ?_;refine Q.gq ?_)|(refine GQ.s ?_;refine Q.st ?_)|(refine GQ.a ?_;refine Q.al (λb1=> ?_)))
    exact ⟨(k+1,true,putL m o.id true),zt,Ent.drop (Ent.refl _),⟨by dsimp only;omega,putL_ok k2 _ _,hm',by rw[decide_eq_false (λhh=>hd0 (hnd.1 hh).1)];rfl,hb5⟩,by dsimp only;omega⟩
   |false=>
    have hd0:((ops.take k).map (·.id)).Nodup:=by
     by_cases hh:((ops.take k).map (·.id)).Nodup
     ·exact hh
     ·rw[decide_eq_false hh] at k4;cases k4
    repeat (first|(refine GQ.y ?_;refine Q.y ?_)|refine Q.go ?_|(refine GQ.g ?_;refine Q.gq ?_)|(refine GQ.s ?_;refine Q.st ?_)|(refine GQ.a ?_;refine Q.al (λb1=> ?_)))
    refine S.y (Y.lk false rfl rfl (λw=>Tryz.zeroValue4 w)) ?_;rw[k3]
    by_cases hin:o.id∈(ops.take k).map (·.id)
    ·rw[if_pos hin]
     repeat (first|(refine GQ.y ?_;refine Q.y ?_)|refine Q.go ?_|(refine GQ.g ?_;refine Q.gq ?_)|(refine GQ.s ?_;refine Q.st ?_)|(refine GQ.a ?_;refine Q.al (λb1=> ?_)))
     refine S.mu rfl rfl rfl ?_
     repeat (first|(refine GQ.y ?_;refine Q.y ?_)|refine Q.go ?_|(refine GQ.g ?_;refine Q.gq ?_)|(refine GQ.s ?_;refine Q.st ?_)|(refine GQ.a ?_;refine Q.al (λb1=> ?_)))
     exact ⟨(k+1,true,putL m o.id true),zt,Ent.drop (Ent.refl _),⟨by dsimp only;omega,putL_ok k2 _ _,hm',by rw[decide_eq_false (λhh=>(hnd.1 hh).2 hin)];rfl,hb5⟩,by dsimp only;omega⟩
    ·rw[if_neg hin]
     repeat (first|(refine GQ.y ?_;refine Q.y ?_)|refine Q.go ?_|(refine GQ.g ?_;refine Q.gq ?_)|(refine GQ.s ?_;refine Q.st ?_)|(refine GQ.a ?_;refine Q.al (λb1=> ?_)))
     refine S.mu rfl rfl rfl ?_
     repeat (first|(refine GQ.y ?_;refine Q.y ?_)|refine Q.go ?_|(refine GQ.g ?_;refine Q.gq ?_)|(refine GQ.s ?_;refine Q.st ?_)|(refine GQ.a ?_;refine Q.al (λb1=> ?_)))
     exact ⟨(k+1,false,putL m o.id true),zt,Ent.drop (Ent.refl _),⟨by dsimp only;omega,putL_ok k2 _ _,hm',by rw[decide_eq_true (hnd.2 ⟨hd0,hin⟩)];rfl,hb5⟩,by dsimp only;omega⟩
 ·have hke:k=ops.length:=by omega
  subst hke;rw[List.take_length] at k4 k5;rw[if_neg (by rw[List.any_map];show ¬(ops.any λo=>badO dim o.abs)=true;rw[k5];exact Bool.false_ne_true)];have hmm:(ops.map OV.abs).map (·.1)=ops.map (·.id):=by rw[List.map_map];rfl
  rw[hmm]
  by_cases hnd:(ops.map (·.id)).Nodup
  ·rw[if_pos hnd]
   simp only[hnd,decide_true,Bool.not_true] at k4;subst k4;refine Q.r ?_;exact N.t rfl (Ent.drop (Ent.refl _)) ⟨rfl,rfl⟩
  ·rw[if_neg hnd]
   simp only[hnd,decide_false,Bool.not_false] at k4;subst k4;refine Q.r ?_;exact N.t rfl (Ent.drop (Ent.refl _)) ⟨rfl,rfl⟩
end Go.Proofs.YtjlgabojhnnbaaaGreatDoor
