/-
  Parts of the proof, put together: Inst, SpPlain, Repl. No condition.
-/
import Derived.Test.YtammjnjpheobaaaGreatProg
import Derived.Test.YtammjnjpheobaaaGreatK5
set_option linter.unusedVariables false
set_option linter.unusedSimpArgs false
set_option linter.unnecessarySimpa false
set_option maxHeartbeats 4000000
namespace Go.Proofs.YtammjnjpheobaaaGreat
open Go.SL
set_option maxRecDepth 100000
instance:Cell1 Tryz.prog 2:=⟨Tryz.isAgg2,Tryz.sizeOf2⟩
instance:IntT Tryz.prog 2 .i64:=⟨Tryz.underlying2⟩
instance:ZeroV Tryz.prog 2 [.int .i64 0]:=⟨_,rfl,Tryz.zeroValue2⟩
instance:ElemT Tryz.prog 2 1 8 [.int .i64 0]:=⟨by kernel_rfl⟩
instance:Cell1 Tryz.prog 3:=⟨Tryz.isAgg3,Tryz.sizeOf3⟩
instance:IntT Tryz.prog 3 .i64:=⟨Tryz.underlying3⟩
instance:ZeroV Tryz.prog 3 [.int .i64 0]:=⟨_,rfl,Tryz.zeroValue3⟩
instance:ElemT Tryz.prog 3 1 8 [.int .i64 0]:=⟨by kernel_rfl⟩
instance:Cell1 Tryz.prog 4:=⟨Tryz.isAgg4,Tryz.sizeOf4⟩
instance:ZeroV Tryz.prog 4 [.bool false]:=⟨_,rfl,Tryz.zeroValue4⟩
instance:ElemT Tryz.prog 4 1 1 [.bool false]:=⟨by kernel_rfl⟩
instance:Cell1 Tryz.prog 5:=⟨Tryz.isAgg5,Tryz.sizeOf5⟩
instance:IntT Tryz.prog 5 .u8:=⟨Tryz.underlying5⟩
instance:ArrT Tryz.prog 22 2 5 1:=⟨Tryz.underlying22,Tryz.sizeOf5⟩
instance:Cell1 Tryz.prog 24:=⟨Tryz.isAgg24,Tryz.sizeOf24⟩
instance:PtrT Tryz.prog 24:=⟨by kernel_rfl⟩
instance:AggN Tryz.prog 27 4:=⟨Tryz.isAgg27,Tryz.sizeOf27⟩
instance:FieldOff Tryz.prog 27 0 0:=FieldOff.of (m:=0) _ _ Tryz.underlying27 rfl rfl Tryz.sizeOf3
instance:FieldOff Tryz.prog 27 1 1:=FieldOff.of (m:=0) _ _ Tryz.underlying27 rfl rfl Tryz.sizeOf3
instance:FieldOff Tryz.prog 27 2 2:=FieldOff.of (m:=0) _ _ Tryz.underlying27 rfl rfl Tryz.sizeOf3
instance:FieldOff Tryz.prog 27 3 3:=FieldOff.of (m:=0) _ _ Tryz.underlying27 rfl rfl Tryz.sizeOf3
instance:BuildT Tryz.prog 27 (fun i=>([(0,1),(1,1),(2,1),(3,1)]:List (Nat×Nat))[i]?) [.int .i64 0,.int .i64 0,.int .i64 0,.int .i64 0]:=BuildT.ofS (fun parts=>by kernel_rfl)
instance:Eq4 Tryz.prog 27:=Eq4.of Tryz.underlying27 (by decide) ⟨rfl,rfl,rfl,rfl⟩ Tryz.underlying3 Tryz.isAgg3 Tryz.eqGuardType27 Tryz.stoodInHeld27
instance:ZeroV Tryz.prog 27 [.int .i64 0,.int .i64 0,.int .i64 0,.int .i64 0]:=⟨_,rfl,Tryz.zeroValue27⟩
instance:ElemT Tryz.prog 27 4 32 [.int .i64 0,.int .i64 0,.int .i64 0,.int .i64 0]:=⟨by kernel_rfl⟩
instance:Cell1 Tryz.prog 28:=⟨Tryz.isAgg28,Tryz.sizeOf28⟩
instance:Cell1 Tryz.prog 31:=⟨Tryz.isAgg31,Tryz.sizeOf31⟩
instance:PtrT Tryz.prog 31:=⟨by kernel_rfl⟩
instance:Cell1 Tryz.prog 35:=⟨Tryz.isAgg35,Tryz.sizeOf35⟩
instance:SliceT Tryz.prog 35 51 2:=⟨Tryz.underlying35,Tryz.sizeOf51⟩
instance:AggN Tryz.prog 37 2:=⟨Tryz.isAgg37,Tryz.sizeOf37⟩
instance:FieldOff Tryz.prog 37 0 0:=FieldOff.of (m:=0) _ _ Tryz.underlying37 rfl rfl Tryz.sizeOf3
instance:FieldOff Tryz.prog 37 1 1:=FieldOff.of (m:=0) _ _ Tryz.underlying37 rfl rfl Tryz.sizeOf35
instance:BuildT Tryz.prog 37 (fun i=>([(0,1),(1,1)]:List (Nat×Nat))[i]?) [.int .i64 0,.slice none 0 0]:=BuildT.ofS (fun parts=>by kernel_rfl)
instance:ZeroV Tryz.prog 37 [.int .i64 0,.slice none 0 0]:=⟨_,rfl,Tryz.zeroValue37⟩
instance:Cell1 Tryz.prog 42:=⟨Tryz.isAgg42,Tryz.sizeOf42⟩
instance:SliceT Tryz.prog 42 49 5:=⟨Tryz.underlying42,Tryz.sizeOf49⟩
instance:ArrT Tryz.prog 47 200 4 1:=⟨Tryz.underlying47,Tryz.sizeOf4⟩
instance:AggN Tryz.prog 49 5:=⟨Tryz.isAgg49,Tryz.sizeOf49⟩
instance:ArrT Tryz.prog 49 5 2 1:=⟨Tryz.underlying49,Tryz.sizeOf2⟩
instance:BuildT Tryz.prog 49 (fun i=>some (i*1,1)) [.int .i64 0,.int .i64 0,.int .i64 0,.int .i64 0,.int .i64 0]:=⟨fun parts=>by kernel_rfl⟩
instance:Eq5 Tryz.prog 49:=Eq5.of Tryz.underlying49 Tryz.underlying2 Tryz.type2 Tryz.isAgg2 (by kernel_rfl) Tryz.eqGuardType49
instance:ZeroV Tryz.prog 49 [.int .i64 0,.int .i64 0,.int .i64 0,.int .i64 0,.int .i64 0]:=⟨_,rfl,Tryz.zeroValue49⟩
instance:ElemT Tryz.prog 49 5 40 [.int .i64 0,.int .i64 0,.int .i64 0,.int .i64 0,.int .i64 0]:=⟨by kernel_rfl⟩
instance:AggN Tryz.prog 51 2:=⟨Tryz.isAgg51,Tryz.sizeOf51⟩
instance:FieldOff Tryz.prog 51 0 0:=FieldOff.of (m:=0) _ _ Tryz.underlying51 rfl rfl Tryz.sizeOf3
instance:FieldOff Tryz.prog 51 1 1:=FieldOff.of (m:=0) _ _ Tryz.underlying51 rfl rfl Tryz.sizeOf3
instance:BuildT Tryz.prog 51 (fun i=>([(0,1),(1,1)]:List (Nat×Nat))[i]?) [.int .i64 0,.int .i64 0]:=BuildT.ofS (fun parts=>by kernel_rfl)
instance:ZeroV Tryz.prog 51 [.int .i64 0,.int .i64 0]:=⟨_,rfl,Tryz.zeroValue51⟩
instance:ElemT Tryz.prog 51 2 16 [.int .i64 0,.int .i64 0]:=⟨by kernel_rfl⟩
instance:ArrT Tryz.prog 52 3 42 1:=⟨Tryz.underlying52,Tryz.sizeOf42⟩
instance:ZeroV Tryz.prog 52 [.slice none 0 0,.slice none 0 0,.slice none 0 0]:=⟨_,rfl,Tryz.zeroValue52⟩
instance:AggN Tryz.prog 53 6:=⟨Tryz.isAgg53,Tryz.sizeOf53⟩
instance:ArrT Tryz.prog 53 3 37 2:=⟨Tryz.underlying53,Tryz.sizeOf37⟩
instance:BuildT Tryz.prog 53 (fun i=>some (i*2,2)) [.int .i64 0,.slice none 0 0,.int .i64 0,.slice none 0 0,.int .i64 0,.slice none 0 0]:=⟨fun parts=>by kernel_rfl⟩
instance:ZeroV Tryz.prog 53 [.int .i64 0,.slice none 0 0,.int .i64 0,.slice none 0 0,.int .i64 0,.slice none 0 0]:=⟨_,rfl,Tryz.zeroValue53⟩
instance:IntT Tryz.prog 56 .u16:=⟨Tryz.underlying56⟩
instance:Cell1 Tryz.prog 57:=⟨Tryz.isAgg57,Tryz.sizeOf57⟩
instance:PtrT Tryz.prog 57:=⟨by kernel_rfl⟩
instance:Cell1 Tryz.prog 61:=⟨Tryz.isAgg61,Tryz.sizeOf61⟩
instance:SliceT Tryz.prog 61 27 4:=⟨Tryz.underlying61,Tryz.sizeOf27⟩
instance:Cell1 Tryz.prog 80:=⟨Tryz.isAgg80,Tryz.sizeOf80⟩
instance:PtrT Tryz.prog 80:=⟨by kernel_rfl⟩
instance:Cell1 Tryz.prog 82:=⟨Tryz.isAgg82,Tryz.sizeOf82⟩
instance:ZeroV Tryz.prog 82 [.pointer none]:=⟨_,rfl,Tryz.zeroValue82⟩
instance:Cell1 Tryz.prog 88:=⟨Tryz.isAgg88,Tryz.sizeOf88⟩
instance:AggN Tryz.prog 91 5:=⟨Tryz.isAgg91,Tryz.sizeOf91⟩
instance:ArrT Tryz.prog 91 5 3 1:=⟨Tryz.underlying91,Tryz.sizeOf3⟩
instance:BuildT Tryz.prog 91 (fun i=>some (i*1,1)) [.int .i64 0,.int .i64 0,.int .i64 0,.int .i64 0,.int .i64 0]:=⟨fun parts=>by kernel_rfl⟩
instance:FieldOff Tryz.prog 95 0 0:=FieldOff.of (m:=0) _ _ Tryz.underlying95 rfl rfl Tryz.sizeOf24
instance:FieldOff Tryz.prog 95 1 1:=FieldOff.of (m:=0) _ _ Tryz.underlying95 rfl rfl Tryz.sizeOf28
instance:FieldOff Tryz.prog 95 2 2:=FieldOff.of (m:=0) _ _ Tryz.underlying95 rfl rfl Tryz.sizeOf61
instance:BuildT Tryz.prog 95 (fun i=>([(0,1),(1,1),(2,1)]:List (Nat×Nat))[i]?) [.pointer none,.int .i64 0,.slice none 0 0]:=BuildT.ofS (fun parts=>by kernel_rfl)
instance:FieldOff Tryz.prog 101 0 0:=FieldOff.of (m:=0) _ _ Tryz.underlying101 rfl rfl Tryz.sizeOf57
instance:FieldOff Tryz.prog 101 1 1:=FieldOff.of (m:=0) _ _ Tryz.underlying101 rfl rfl Tryz.sizeOf31
instance:FieldOff Tryz.prog 101 2 2:=FieldOff.of (m:=0) _ _ Tryz.underlying101 rfl rfl Tryz.sizeOf80
instance:BuildT Tryz.prog 101 (fun i=>([(0,1),(1,1),(2,1)]:List (Nat×Nat))[i]?) [.pointer none,.pointer none,.pointer none]:=BuildT.ofS (fun parts=>by kernel_rfl)
instance:Cell1 Tryz.prog 102:=⟨Tryz.isAgg102,Tryz.sizeOf102⟩
instance:MapT Tryz.prog 102 151 3:=⟨Tryz.underlying102⟩
instance:FieldOff Tryz.prog 104 0 0:=FieldOff.of (m:=0) _ _ Tryz.underlying104 rfl rfl Tryz.sizeOf3
instance:FieldOff Tryz.prog 104 1 1:=FieldOff.of (m:=0) _ _ Tryz.underlying104 rfl rfl Tryz.sizeOf3
instance:FieldOff Tryz.prog 104 2 2:=FieldOff.of (m:=0) _ _ Tryz.underlying104 rfl rfl Tryz.sizeOf3
instance:FieldOff Tryz.prog 104 3 3:=FieldOff.of (m:=0) _ _ Tryz.underlying104 rfl rfl Tryz.sizeOf102
instance:BuildT Tryz.prog 104 (fun i=>([(0,1),(1,1),(2,1),(3,1)]:List (Nat×Nat))[i]?) [.int .i64 0,.int .i64 0,.int .i64 0,.map none]:=BuildT.ofS (fun parts=>by kernel_rfl)
instance:Cell1 Tryz.prog 105:=⟨Tryz.isAgg105,Tryz.sizeOf105⟩
instance:PtrT Tryz.prog 105:=⟨by kernel_rfl⟩
instance:Cell1 Tryz.prog 112:=⟨Tryz.isAgg112,Tryz.sizeOf112⟩
instance:MapT Tryz.prog 112 3 159:=⟨Tryz.underlying112⟩
instance:Cell1 Tryz.prog 113:=⟨Tryz.isAgg113,Tryz.sizeOf113⟩
instance:SliceT Tryz.prog 113 222 2:=⟨Tryz.underlying113,Tryz.sizeOf222⟩
instance:FieldOff Tryz.prog 115 0 0:=FieldOff.of (m:=0) _ _ Tryz.underlying115 rfl rfl Tryz.sizeOf3
instance:FieldOff Tryz.prog 115 1 1:=FieldOff.of (m:=0) _ _ Tryz.underlying115 rfl rfl Tryz.sizeOf3
instance:FieldOff Tryz.prog 115 3 3:=FieldOff.of (m:=0) _ _ Tryz.underlying115 rfl rfl Tryz.sizeOf112
instance:FieldOff Tryz.prog 115 4 4:=FieldOff.of (m:=0) _ _ Tryz.underlying115 rfl rfl Tryz.sizeOf113
instance:FieldOff Tryz.prog 115 5 5:=FieldOff.of (m:=0) _ _ Tryz.underlying115 rfl rfl Tryz.sizeOf3
instance:FieldOff Tryz.prog 115 6 6:=FieldOff.of (m:=0) _ _ Tryz.underlying115 rfl rfl Tryz.sizeOf3
instance:FieldOff Tryz.prog 115 7 7:=FieldOff.of (m:=0) _ _ Tryz.underlying115 rfl rfl Tryz.sizeOf4
instance:FieldOff Tryz.prog 115 8 8:=FieldOff.of (m:=0) _ _ Tryz.underlying115 rfl rfl Tryz.sizeOf3
instance:BuildT Tryz.prog 115 (fun i=>([(0,1),(1,1),(2,1),(3,1),(4,1),(5,1),(6,1),(7,1),(8,1)]:List (Nat×Nat))[i]?) [.int .i64 0,.int .i64 0,.map none,.map none,.slice none 0 0,.int .i64 0,.int .i64 0,.bool false,.int .i64 0]:=BuildT.ofS (fun parts=>by kernel_rfl)
instance:Cell1 Tryz.prog 120:=⟨Tryz.isAgg120,Tryz.sizeOf120⟩
instance:PtrT Tryz.prog 120:=⟨by kernel_rfl⟩
instance:ZeroV Tryz.prog 120 [.pointer none]:=⟨_,rfl,Tryz.zeroValue120⟩
instance:AggN Tryz.prog 126 2:=⟨Tryz.isAgg126,Tryz.sizeOf126⟩
instance:FieldOff Tryz.prog 126 0 0:=FieldOff.of (m:=0) _ _ Tryz.underlying126 rfl rfl Tryz.sizeOf3
instance:FieldOff Tryz.prog 126 1 1:=FieldOff.of (m:=0) _ _ Tryz.underlying126 rfl rfl Tryz.sizeOf3
instance:BuildT Tryz.prog 126 (fun i=>([(0,1),(1,1)]:List (Nat×Nat))[i]?) [.int .i64 0,.int .i64 0]:=BuildT.ofS (fun parts=>by kernel_rfl)
instance:ZeroV Tryz.prog 126 [.int .i64 0,.int .i64 0]:=⟨_,rfl,Tryz.zeroValue126⟩
instance:ElemT Tryz.prog 126 2 16 [.int .i64 0,.int .i64 0]:=⟨by kernel_rfl⟩
instance:Cell1 Tryz.prog 127:=⟨Tryz.isAgg127,Tryz.sizeOf127⟩
instance:SliceT Tryz.prog 127 126 2:=⟨Tryz.underlying127,Tryz.sizeOf126⟩
instance:FieldOff Tryz.prog 129 0 0:=FieldOff.of (m:=1) _ _ Tryz.underlying129 rfl rfl Tryz.sizeOf126
instance:FieldOff Tryz.prog 129 1 2:=FieldOff.of (m:=0) _ _ Tryz.underlying129 rfl rfl Tryz.sizeOf127
instance:BuildT Tryz.prog 129 (fun i=>([(0,2),(2,1)]:List (Nat×Nat))[i]?) [.int .i64 0,.int .i64 0,.slice none 0 0]:=BuildT.ofS (fun parts=>by kernel_rfl)
instance:Cell1 Tryz.prog 136:=⟨Tryz.isAgg136,Tryz.sizeOf136⟩
instance:FieldOff Tryz.prog 138 0 0:=FieldOff.of (m:=0) _ _ Tryz.underlying138 rfl rfl Tryz.sizeOf136
instance:FieldOff Tryz.prog 138 1 1:=FieldOff.of (m:=4) _ _ Tryz.underlying138 rfl rfl Tryz.sizeOf49
instance:FieldOff Tryz.prog 138 2 6:=FieldOff.of (m:=0) _ _ Tryz.underlying138 rfl rfl Tryz.sizeOf4
instance:FieldOff Tryz.prog 138 3 7:=FieldOff.of (m:=0) _ _ Tryz.underlying138 rfl rfl Tryz.sizeOf4
instance:FieldOff Tryz.prog 138 4 8:=FieldOff.of (m:=0) _ _ Tryz.underlying138 rfl rfl Tryz.sizeOf3
instance:FieldOff Tryz.prog 138 5 9:=FieldOff.of (m:=0) _ _ Tryz.underlying138 rfl rfl Tryz.sizeOf3
instance:FieldOff Tryz.prog 138 6 10:=FieldOff.of (m:=0) _ _ Tryz.underlying138 rfl rfl Tryz.sizeOf3
instance:FieldOff Tryz.prog 138 7 11:=FieldOff.of (m:=0) _ _ Tryz.underlying138 rfl rfl Tryz.sizeOf2
instance:FieldOff Tryz.prog 138 8 12:=FieldOff.of (m:=0) _ _ Tryz.underlying138 rfl rfl Tryz.sizeOf4
instance:BuildT Tryz.prog 138 (fun i=>([(0,1),(1,5),(6,1),(7,1),(8,1),(9,1),(10,1),(11,1),(12,1)]:List (Nat×Nat))[i]?) [.nilFunc,.int .i64 0,.int .i64 0,.int .i64 0,.int .i64 0,.int .i64 0,.bool false,.bool false,.int .i64 0,.int .i64 0,.int .i64 0,.int .i64 0,.bool false]:=BuildT.ofS (fun parts=>by kernel_rfl)
instance:Cell1 Tryz.prog 141:=⟨Tryz.isAgg141,Tryz.sizeOf141⟩
instance:ZeroV Tryz.prog 141 [.pointer none]:=⟨_,rfl,Tryz.zeroValue141⟩
instance:FieldOff Tryz.prog 143 0 0:=FieldOff.of (m:=4) _ _ Tryz.underlying143 rfl rfl Tryz.sizeOf49
instance:FieldOff Tryz.prog 143 1 5:=FieldOff.of (m:=4) _ _ Tryz.underlying143 rfl rfl Tryz.sizeOf49
instance:FieldOff Tryz.prog 143 2 10:=FieldOff.of (m:=0) _ _ Tryz.underlying143 rfl rfl Tryz.sizeOf4
instance:BuildT Tryz.prog 143 (fun i=>([(0,5),(5,5),(10,1)]:List (Nat×Nat))[i]?) [.int .i64 0,.int .i64 0,.int .i64 0,.int .i64 0,.int .i64 0,.int .i64 0,.int .i64 0,.int .i64 0,.int .i64 0,.int .i64 0,.bool false]:=BuildT.ofS (fun parts=>by kernel_rfl)
instance:Cell1 Tryz.prog 151:=⟨Tryz.isAgg151,Tryz.sizeOf151⟩
instance:PtrT Tryz.prog 151:=⟨by kernel_rfl⟩
instance:PtrKey Tryz.prog 151:=⟨161,1,Tryz.underlying151,by decide,Tryz.sizeOf161⟩
instance:FieldOff Tryz.prog 155 0 0:=FieldOff.of (m:=0) _ _ Tryz.underlying155 rfl rfl Tryz.sizeOf24
instance:FieldOff Tryz.prog 155 1 1:=FieldOff.of (m:=3) _ _ Tryz.underlying155 rfl rfl Tryz.sizeOf27
instance:FieldOff Tryz.prog 155 2 5:=FieldOff.of (m:=0) _ _ Tryz.underlying155 rfl rfl Tryz.sizeOf151
instance:FieldOff Tryz.prog 155 3 6:=FieldOff.of (m:=0) _ _ Tryz.underlying155 rfl rfl Tryz.sizeOf3
instance:FieldOff Tryz.prog 155 4 7:=FieldOff.of (m:=0) _ _ Tryz.underlying155 rfl rfl Tryz.sizeOf3
instance:FieldOff Tryz.prog 155 5 8:=FieldOff.of (m:=0) _ _ Tryz.underlying155 rfl rfl Tryz.sizeOf3
instance:FieldOff Tryz.prog 155 6 9:=FieldOff.of (m:=0) _ _ Tryz.underlying155 rfl rfl Tryz.sizeOf3
instance:FieldOff Tryz.prog 155 7 10:=FieldOff.of (m:=0) _ _ Tryz.underlying155 rfl rfl Tryz.sizeOf4
instance:BuildT Tryz.prog 155 (fun i=>([(0,1),(1,4),(5,1),(6,1),(7,1),(8,1),(9,1),(10,1)]:List (Nat×Nat))[i]?) [.pointer none,.int .i64 0,.int .i64 0,.int .i64 0,.int .i64 0,.pointer none,.int .i64 0,.int .i64 0,.int .i64 0,.int .i64 0,.bool false]:=BuildT.ofS (fun parts=>by kernel_rfl)
instance:Cell1 Tryz.prog 158:=⟨Tryz.isAgg158,Tryz.sizeOf158⟩
instance:IntT Tryz.prog 158 .u64:=⟨Tryz.underlying158⟩
instance:ElemT Tryz.prog 158 1 8 [.int .u64 0]:=⟨by kernel_rfl⟩
instance:Cell1 Tryz.prog 159:=⟨Tryz.isAgg159,Tryz.sizeOf159⟩
instance:SliceT Tryz.prog 159 158 1:=⟨Tryz.underlying159,Tryz.sizeOf158⟩
instance:FieldOff Tryz.prog 161 0 0:=FieldOff.of (m:=0) _ _ Tryz.underlying161 rfl rfl Tryz.sizeOf159
instance:BuildT Tryz.prog 161 (fun i=>([(0,1)]:List (Nat×Nat))[i]?) [.slice none 0 0]:=BuildT.ofS (fun parts=>by kernel_rfl)
instance:SliceT Tryz.prog 163 2 1:=⟨Tryz.underlying163,Tryz.sizeOf2⟩
instance:SliceT Tryz.prog 166 3 1:=⟨Tryz.underlying166,Tryz.sizeOf3⟩
instance:SliceT Tryz.prog 168 4 1:=⟨Tryz.underlying168,Tryz.sizeOf4⟩
instance:FieldOff Tryz.prog 178 0 0:=FieldOff.of (m:=0) _ _ Tryz.underlying178 rfl rfl Tryz.sizeOf24
instance:FieldOff Tryz.prog 178 1 1:=FieldOff.of (m:=3) _ _ Tryz.underlying178 rfl rfl Tryz.sizeOf27
instance:FieldOff Tryz.prog 178 2 5:=FieldOff.of (m:=0) _ _ Tryz.underlying178 rfl rfl Tryz.sizeOf3
instance:FieldOff Tryz.prog 178 3 6:=FieldOff.of (m:=0) _ _ Tryz.underlying178 rfl rfl Tryz.sizeOf151
instance:FieldOff Tryz.prog 178 4 7:=FieldOff.of (m:=0) _ _ Tryz.underlying178 rfl rfl Tryz.sizeOf3
instance:FieldOff Tryz.prog 178 5 8:=FieldOff.of (m:=0) _ _ Tryz.underlying178 rfl rfl Tryz.sizeOf3
instance:FieldOff Tryz.prog 178 6 9:=FieldOff.of (m:=0) _ _ Tryz.underlying178 rfl rfl Tryz.sizeOf4
instance:BuildT Tryz.prog 178 (fun i=>([(0,1),(1,4),(5,1),(6,1),(7,1),(8,1),(9,1)]:List (Nat×Nat))[i]?) [.pointer none,.int .i64 0,.int .i64 0,.int .i64 0,.int .i64 0,.int .i64 0,.pointer none,.int .i64 0,.int .i64 0,.bool false]:=BuildT.ofS (fun parts=>by kernel_rfl)
instance:FieldOff Tryz.prog 186 0 0:=FieldOff.of (m:=0) _ _ Tryz.underlying186 rfl rfl Tryz.sizeOf24
instance:FieldOff Tryz.prog 186 1 1:=FieldOff.of (m:=4) _ _ Tryz.underlying186 rfl rfl Tryz.sizeOf91
instance:FieldOff Tryz.prog 186 2 6:=FieldOff.of (m:=0) _ _ Tryz.underlying186 rfl rfl Tryz.sizeOf4
instance:FieldOff Tryz.prog 186 3 7:=FieldOff.of (m:=0) _ _ Tryz.underlying186 rfl rfl Tryz.sizeOf61
instance:FieldOff Tryz.prog 186 4 8:=FieldOff.of (m:=4) _ _ Tryz.underlying186 rfl rfl Tryz.sizeOf49
instance:FieldOff Tryz.prog 186 5 13:=FieldOff.of (m:=0) _ _ Tryz.underlying186 rfl rfl Tryz.sizeOf4
instance:BuildT Tryz.prog 186 (fun i=>([(0,1),(1,5),(6,1),(7,1),(8,5),(13,1)]:List (Nat×Nat))[i]?) [.pointer none,.int .i64 0,.int .i64 0,.int .i64 0,.int .i64 0,.int .i64 0,.bool false,.slice none 0 0,.int .i64 0,.int .i64 0,.int .i64 0,.int .i64 0,.int .i64 0,.bool false]:=BuildT.ofS (fun parts=>by kernel_rfl)
instance:ArrT Tryz.prog 208 6 4 1:=⟨Tryz.underlying208,Tryz.sizeOf4⟩
instance:ZeroV Tryz.prog 208 [.bool false,.bool false,.bool false,.bool false,.bool false,.bool false]:=⟨_,rfl,Tryz.zeroValue208⟩
instance:PtrT Tryz.prog 209:=⟨by kernel_rfl⟩
instance:FieldOff Tryz.prog 211 0 0:=FieldOff.of (m:=0) _ _ Tryz.underlying211 rfl rfl Tryz.sizeOf151
instance:FieldOff Tryz.prog 211 1 1:=FieldOff.of (m:=0) _ _ Tryz.underlying211 rfl rfl Tryz.sizeOf3
instance:FieldOff Tryz.prog 211 2 2:=FieldOff.of (m:=0) _ _ Tryz.underlying211 rfl rfl Tryz.sizeOf3
instance:FieldOff Tryz.prog 211 3 3:=FieldOff.of (m:=4) _ _ Tryz.underlying211 rfl rfl Tryz.sizeOf91
instance:BuildT Tryz.prog 211 (fun i=>([(0,1),(1,1),(2,1),(3,5)]:List (Nat×Nat))[i]?) [.pointer none,.int .i64 0,.int .i64 0,.int .i64 0,.int .i64 0,.int .i64 0,.int .i64 0,.int .i64 0]:=BuildT.ofS (fun parts=>by kernel_rfl)
instance:IntT Tryz.prog 217 .u64:=⟨Tryz.underlying217⟩
instance:BuildT Tryz.prog 222 (fun i=>([(0,1),(1,1)]:List (Nat×Nat))[i]?) [.int .i64 0,.slice none 0 0]:=BuildT.ofS (fun parts=>by kernel_rfl)
instance:ElemT Tryz.prog 222 2 32 [.int .i64 0,.slice none 0 0]:=⟨by kernel_rfl⟩
instance:Cell1 Tryz.prog 232:=⟨Tryz.isAgg232,Tryz.sizeOf232⟩
instance:PtrT Tryz.prog 232:=⟨by kernel_rfl⟩
instance:ZeroV Tryz.prog 232 [.pointer none]:=⟨_,rfl,Tryz.zeroValue232⟩
instance:Cell1 Tryz.prog 233:=⟨Tryz.isAgg233,Tryz.sizeOf233⟩
instance:SliceT Tryz.prog 233 237 7:=⟨Tryz.underlying233,Tryz.sizeOf237⟩
instance:FieldOff Tryz.prog 235 0 0:=FieldOff.of (m:=0) _ _ Tryz.underlying235 rfl rfl Tryz.sizeOf233
instance:FieldOff Tryz.prog 235 1 1:=FieldOff.of (m:=4) _ _ Tryz.underlying235 rfl rfl Tryz.sizeOf91
instance:BuildT Tryz.prog 235 (fun i=>([(0,1),(1,5)]:List (Nat×Nat))[i]?) [.slice none 0 0,.int .i64 0,.int .i64 0,.int .i64 0,.int .i64 0,.int .i64 0]:=BuildT.ofS (fun parts=>by kernel_rfl)
instance:AggN Tryz.prog 237 7:=⟨Tryz.isAgg237,Tryz.sizeOf237⟩
instance:FieldOff Tryz.prog 237 0 0:=FieldOff.of (m:=4) _ _ Tryz.underlying237 rfl rfl Tryz.sizeOf49
instance:FieldOff Tryz.prog 237 1 5:=FieldOff.of (m:=0) _ _ Tryz.underlying237 rfl rfl Tryz.sizeOf3
instance:FieldOff Tryz.prog 237 2 6:=FieldOff.of (m:=0) _ _ Tryz.underlying237 rfl rfl Tryz.sizeOf105
instance:BuildT Tryz.prog 237 (fun i=>([(0,5),(5,1),(6,1)]:List (Nat×Nat))[i]?) [.int .i64 0,.int .i64 0,.int .i64 0,.int .i64 0,.int .i64 0,.int .i64 0,.pointer none]:=BuildT.ofS (fun parts=>by kernel_rfl)
instance:ZeroV Tryz.prog 237 [.int .i64 0,.int .i64 0,.int .i64 0,.int .i64 0,.int .i64 0,.int .i64 0,.pointer none]:=⟨_,rfl,Tryz.zeroValue237⟩
instance:ElemT Tryz.prog 237 7 56 [.int .i64 0,.int .i64 0,.int .i64 0,.int .i64 0,.int .i64 0,.int .i64 0,.pointer none]:=⟨by kernel_rfl⟩
instance:IntT Tryz.prog 241 .u32:=⟨Tryz.underlying241⟩
instance:Callable Tryz.prog 13:=⟨Tryz.call13⟩
instance:Callable Tryz.prog 14:=⟨Tryz.call14⟩
instance:Callable Tryz.prog 15:=⟨Tryz.call15⟩
instance:Callable Tryz.prog 16:=⟨Tryz.call16⟩
instance:Callable Tryz.prog 17:=⟨Tryz.call17⟩
instance:Callable Tryz.prog 18:=⟨Tryz.call18⟩
instance:Callable Tryz.prog 19:=⟨Tryz.call19⟩
instance:Callable Tryz.prog 20:=⟨Tryz.call20⟩
instance:Callable Tryz.prog 21:=⟨Tryz.call21⟩
instance:Callable Tryz.prog 22:=⟨Tryz.call22⟩
instance:Callable Tryz.prog 23:=⟨Tryz.call23⟩
instance:Callable Tryz.prog 24:=⟨Tryz.call24⟩
instance:Callable Tryz.prog 25:=⟨Tryz.call25⟩
instance:Callable Tryz.prog 26:=⟨Tryz.call26⟩
instance:Callable Tryz.prog 30:=⟨Tryz.call30⟩
instance:Callable Tryz.prog 34:=⟨Tryz.call34⟩
instance:Callable Tryz.prog 37:=⟨Tryz.call37⟩
instance:Callable Tryz.prog 38:=⟨Tryz.call38⟩
instance:Callable Tryz.prog 39:=⟨Tryz.call39⟩
instance:Callable Tryz.prog 40:=⟨Tryz.call40⟩
instance:Callable Tryz.prog 41:=⟨Tryz.call41⟩
instance:Callable Tryz.prog 42:=⟨Tryz.call42⟩
instance:Callable Tryz.prog 43:=⟨Tryz.call43⟩
instance:Callable Tryz.prog 44:=⟨Tryz.call44⟩
instance:Callable Tryz.prog 45:=⟨Tryz.call45⟩
instance:Callable Tryz.prog 46:=⟨Tryz.call46⟩
instance:Callable Tryz.prog 47:=⟨Tryz.call47⟩
instance:Callable Tryz.prog 48:=⟨Tryz.call48⟩
instance:Callable Tryz.prog 49:=⟨Tryz.call49⟩
instance:Callable Tryz.prog 50:=⟨Tryz.call50⟩
instance:Callable Tryz.prog 51:=⟨Tryz.call51⟩
instance:Callable Tryz.prog 52:=⟨Tryz.call52⟩
instance:Callable Tryz.prog 53:=⟨Tryz.call53⟩
instance:Callable Tryz.prog 54:=⟨Tryz.call54⟩
instance:Callable Tryz.prog 55:=⟨Tryz.call55⟩
instance:Callable Tryz.prog 56:=⟨Tryz.call56⟩
instance:Callable Tryz.prog 57:=⟨Tryz.call57⟩
instance:Callable Tryz.prog 58:=⟨Tryz.call58⟩
instance:Callable Tryz.prog 59:=⟨Tryz.call59⟩
instance:Callable Tryz.prog 60:=⟨Tryz.call60⟩
instance:Callable Tryz.prog 69:=⟨Tryz.call69⟩
instance:Callable Tryz.prog 70:=⟨Tryz.call70⟩
instance:Callable Tryz.prog 71:=⟨Tryz.call71⟩
instance:Callable Tryz.prog 73:=⟨Tryz.call73⟩
instance:Callable Tryz.prog 74:=⟨Tryz.call74⟩
instance:Callable Tryz.prog 75:=⟨Tryz.call75⟩
instance:Callable Tryz.prog 76:=⟨Tryz.call76⟩
instance:Callable Tryz.prog 79:=⟨Tryz.call79⟩
instance:Callable Tryz.prog 80:=⟨Tryz.call80⟩
instance:Callable Tryz.prog 81:=⟨Tryz.call81⟩
instance:Callable Tryz.prog 82:=⟨Tryz.call82⟩
instance:Callable Tryz.prog 83:=⟨Tryz.call83⟩
instance:Callable Tryz.prog 84:=⟨Tryz.call84⟩
instance:Callable Tryz.prog 85:=⟨Tryz.call85⟩
instance:Callable Tryz.prog 86:=⟨Tryz.call86⟩
instance:Callable Tryz.prog 87:=⟨Tryz.call87⟩
instance:Callable Tryz.prog 88:=⟨Tryz.call88⟩
instance:Callable Tryz.prog 89:=⟨Tryz.call89⟩
instance:Callable Tryz.prog 90:=⟨Tryz.call90⟩
instance:Callable Tryz.prog 91:=⟨Tryz.call91⟩
instance:Callable Tryz.prog 92:=⟨Tryz.call92⟩
instance:Callable Tryz.prog 93:=⟨Tryz.call93⟩
instance:Callable Tryz.prog 94:=⟨Tryz.call94⟩
instance:Callable Tryz.prog 95:=⟨Tryz.call95⟩
instance:Callable Tryz.prog 96:=⟨Tryz.call96⟩
instance:Callable Tryz.prog 97:=⟨Tryz.call97⟩
instance:Callable Tryz.prog 98:=⟨Tryz.call98⟩
instance:Callable Tryz.prog 99:=⟨Tryz.call99⟩
instance:Callable Tryz.prog 100:=⟨Tryz.call100⟩
instance:Callable Tryz.prog 101:=⟨Tryz.call101⟩
instance:Callable Tryz.prog 102:=⟨Tryz.call102⟩
instance:Callable Tryz.prog 103:=⟨Tryz.call103⟩
instance:Callable Tryz.prog 104:=⟨Tryz.call104⟩
instance:Callable Tryz.prog 105:=⟨Tryz.call105⟩
instance:Callable Tryz.prog 106:=⟨Tryz.call106⟩
instance:Callable Tryz.prog 110:=⟨Tryz.call110⟩
instance:Callable Tryz.prog 119:=⟨Tryz.call119⟩
instance:Callable Tryz.prog 121:=⟨Tryz.call121⟩
instance:Callable Tryz.prog 122:=⟨Tryz.call122⟩
instance:Callable Tryz.prog 123:=⟨Tryz.call123⟩
instance:Callable Tryz.prog 124:=⟨Tryz.call124⟩
instance:Callable Tryz.prog 125:=⟨Tryz.call125⟩
instance:Callable Tryz.prog 126:=⟨Tryz.call126⟩
instance:Callable Tryz.prog 127:=⟨Tryz.call127⟩
instance:Callable Tryz.prog 128:=⟨Tryz.call128⟩
instance:Callable Tryz.prog 129:=⟨Tryz.call129⟩
instance:Callable Tryz.prog 130:=⟨Tryz.call130⟩
instance:Callable Tryz.prog 131:=⟨Tryz.call131⟩
instance:Callable Tryz.prog 132:=⟨Tryz.call132⟩
instance:Callable Tryz.prog 133:=⟨Tryz.call133⟩
instance:Callable Tryz.prog 134:=⟨Tryz.call134⟩
instance:Callable Tryz.prog 135:=⟨Tryz.call135⟩
instance:Callable Tryz.prog 136:=⟨Tryz.call136⟩
instance:Callable Tryz.prog 137:=⟨Tryz.call137⟩
instance:Callable Tryz.prog 138:=⟨Tryz.call138⟩
instance:Callable Tryz.prog 139:=⟨Tryz.call139⟩
instance:Callable Tryz.prog 140:=⟨Tryz.call140⟩
instance:Callable Tryz.prog 141:=⟨Tryz.call141⟩
instance:Callable Tryz.prog 142:=⟨Tryz.call142⟩
instance:Callable Tryz.prog 143:=⟨Tryz.call143⟩
instance:Callable Tryz.prog 144:=⟨Tryz.call144⟩
instance:Callable Tryz.prog 145:=⟨Tryz.call145⟩
instance:Callable Tryz.prog 153:=⟨Tryz.call153⟩
instance:Callable Tryz.prog 154:=⟨Tryz.call154⟩
instance:Callable Tryz.prog 155:=⟨Tryz.call155⟩
instance:Callable Tryz.prog 156:=⟨Tryz.call156⟩
instance:Callable Tryz.prog 157:=⟨Tryz.call157⟩
instance:Callable Tryz.prog 158:=⟨Tryz.call158⟩
instance:Callable Tryz.prog 159:=⟨Tryz.call159⟩
instance:Callable Tryz.prog 160:=⟨Tryz.call160⟩
instance:Callable Tryz.prog 161:=⟨Tryz.call161⟩
instance:Callable Tryz.prog 162:=⟨Tryz.call162⟩
instance:Callable Tryz.prog 163:=⟨Tryz.call163⟩
instance:Callable Tryz.prog 164:=⟨Tryz.call164⟩
instance:Callable Tryz.prog 165:=⟨Tryz.call165⟩
instance:Callable Tryz.prog 166:=⟨Tryz.call166⟩
instance:Callable Tryz.prog 167:=⟨Tryz.call167⟩
instance:Callable Tryz.prog 168:=⟨Tryz.call168⟩
instance:Callable Tryz.prog 169:=⟨Tryz.call169⟩
instance:Callable Tryz.prog 170:=⟨Tryz.call170⟩
instance:Callable Tryz.prog 171:=⟨Tryz.call171⟩
instance:Callable Tryz.prog 172:=⟨Tryz.call172⟩
instance:Callable Tryz.prog 174:=⟨Tryz.call174⟩
instance:Callable Tryz.prog 175:=⟨Tryz.call175⟩
instance:Callable Tryz.prog 176:=⟨Tryz.call176⟩
instance:Callable Tryz.prog 180:=⟨Tryz.call180⟩
instance:Callable Tryz.prog 181:=⟨Tryz.call181⟩
instance:Callable Tryz.prog 182:=⟨Tryz.call182⟩
instance:Callable Tryz.prog 183:=⟨Tryz.call183⟩
instance:Callable Tryz.prog 184:=⟨Tryz.call184⟩
instance:Callable Tryz.prog 185:=⟨Tryz.call185⟩
instance:Callable Tryz.prog 186:=⟨Tryz.call186⟩
instance:Callable Tryz.prog 187:=⟨Tryz.call187⟩
instance:Callable Tryz.prog 188:=⟨Tryz.call188⟩
instance:Callable Tryz.prog 189:=⟨Tryz.call189⟩
instance:Callable Tryz.prog 190:=⟨Tryz.call190⟩
instance:Callable Tryz.prog 192:=⟨Tryz.call192⟩
instance:Callable Tryz.prog 193:=⟨Tryz.call193⟩
instance:Callable Tryz.prog 194:=⟨Tryz.call194⟩
instance:Callable Tryz.prog 195:=⟨Tryz.call195⟩
instance:Callable Tryz.prog 197:=⟨Tryz.call197⟩
instance:Callable Tryz.prog 198:=⟨Tryz.call198⟩
instance:Callable Tryz.prog 199:=⟨Tryz.call199⟩
instance:Callable Tryz.prog 200:=⟨Tryz.call200⟩
instance:Callable Tryz.prog 201:=⟨Tryz.call201⟩
instance:Callable Tryz.prog 202:=⟨Tryz.call202⟩
instance:Callable Tryz.prog 220:=⟨Tryz.call220⟩
instance:Callable Tryz.prog 221:=⟨Tryz.call221⟩
instance:Callable Tryz.prog 222:=⟨Tryz.call222⟩
instance:Callable Tryz.prog 223:=⟨Tryz.call223⟩
instance:Callable Tryz.prog 224:=⟨Tryz.call224⟩
instance:Callable Tryz.prog 225:=⟨Tryz.call225⟩
instance:Mixed Tryz.prog:=⟨by kernel_rfl⟩
end Go.Proofs.YtammjnjpheobaaaGreat
namespace Go.Spc
abbrev Ext:=Nat×Nat
def fok (n:Nat) (l:List Ext):Prop:=(∀e∈l,1≤e.2∧e.1+e.2≤n)∧l.Pairwise fun a b=>a.1+a.2<b.1
def inF (l:List Ext) (x:Nat):Prop:=∃e∈l,e.1≤x∧x<e.1+e.2
@[simp] theorem inF_nil (x:Nat):inF [] x↔False:=by simp[inF]
@[simp] theorem inF_cons (e:Ext) (l:List Ext) (x:Nat):inF (e::l) x↔(e.1≤x∧x<e.1+e.2)∨inF l x:=by simp[inF]
@[simp] theorem inF_app (a b:List Ext) (x:Nat):inF (a++b) x↔inF a x∨inF b x:=by
 simp only[inF,List.mem_append]
 constructor
 ·rintro⟨e,h|h,h2⟩
  ·exact .inl ⟨e,h,h2⟩
  ·exact .inr ⟨e,h,h2⟩
 ·rintro(⟨e,h,h2⟩|⟨e,h,h2⟩)
  ·exact⟨e,.inl h,h2⟩
  ·exact⟨e,.inr h,h2⟩
theorem fok_app {n:Nat} {a b:List Ext}:fok n (a++b)↔fok n a∧fok n b∧∀x∈a,∀y∈b,x.1+x.2<y.1:=by
 unfold fok
 rw[List.pairwise_append]
 constructor
 ·rintro⟨h1,h2,h3,h4⟩
  exact⟨⟨fun e he=>h1 e (List.mem_append_left _ he),h2⟩,⟨fun e he=>h1 e (List.mem_append_right _ he),h3⟩,h4⟩
 ·rintro⟨⟨h1,h2⟩,⟨h3,h4⟩,h5⟩
  refine⟨fun e he=> ?_,h2,h4,h5⟩
  rcases List.mem_append.1 he with h|h
  ·exact h1 e h
  ·exact h3 e h
theorem fok_cons {n:Nat} {e:Ext} {b:List Ext}:fok n (e::b)↔(1≤e.2∧e.1+e.2≤n)∧fok n b∧∀y∈b,e.1+e.2<y.1:=by
 unfold fok
 rw[List.pairwise_cons]
 simp only[List.mem_cons,forall_eq_or_imp]
 constructor
 ·rintro⟨⟨h1,h2⟩,h3,h4⟩
  exact⟨h1,⟨h2,h4⟩,h3⟩
 ·rintro⟨h1,⟨h2,h4⟩,h3⟩
  exact⟨⟨h1,h2⟩,h3,h4⟩
theorem fok_nil (n:Nat):fok n []:=⟨(by simp),List.Pairwise.nil⟩
theorem cut_at {n:Nat} (first:Nat):∀(l:List Ext),fok n l→∃A B,l=A++B∧(∀e∈A,e.1+e.2≤first)∧∀e∈B,first<e.1+e.2
 |[],_=>⟨[],[],rfl,by simp,by simp⟩
 |e::l,h=>by
  obtain⟨h1,h2,h3⟩:=fok_cons.1 h
  by_cases he:first<e.1+e.2
  ·refine⟨[],e::l,rfl,by simp,?_⟩
   intro y hy
   rcases List.mem_cons.1 hy with rfl|hy
   ·exact he
   ·have:=h3 y hy
    have:=h2.1 y hy
    omega
  ·obtain⟨A,B,rfl,hA,hB⟩:=cut_at first l h2
   refine⟨e::A,B,rfl,?_,hB⟩
   intro y hy
   rcases List.mem_cons.1 hy with rfl|hy
   ·omega
   ·exact hA y hy
theorem behind_free {first m:Nat} {e:Ext} {B:List Ext} (h1:first<e.1+e.2) (he:1≤e.2) (hd:∀x,first≤x→x<first+m→¬inF (e::B) x) (hm:1≤m):first+m≤e.1:=by
 by_cases hh:first+m≤e.1
 ·exact hh
 ·exfalso
  by_cases h2:e.1≤first
  ·exact hd first (Nat.le_refl _) (by omega) ((inF_cons ..).2 (.inl ⟨h2,h1⟩))
  ·exact hd e.1 (by omega) (by omega) ((inF_cons ..).2 (.inl ⟨Nat.le_refl _,by omega⟩))
def total (l:List Ext):Nat:=(l.map (·.2)).sum
@[simp] theorem total_app (a b:List Ext):total (a++b)=total a+total b:=by simp[total]
@[simp] theorem total_cons (e:Ext) (b:List Ext):total (e::b)=e.2+total b:=by simp[total]
@[simp] theorem total_nil:total []=0:=rfl
theorem first_fit (m:Nat):∀(l:List Ext),(∀e∈l,e.2<m)∨∃A e B,l=A++e::B∧m≤e.2∧∀x∈A,x.2<m
 |[]=> .inl (by simp)
 |e::l=>by
  by_cases he:m≤e.2
  ·exact .inr ⟨[],e,l,rfl,he,by simp⟩
  ·rcases first_fit m l with h|⟨A,x,B,rfl,h1,h2⟩
   ·left
    intro y hy
    rcases List.mem_cons.1 hy with rfl|hy
    ·omega
    ·exact h y hy
   ·right
    refine⟨e::A,x,B,rfl,h1,fun y hy=> ?_⟩
    rcases List.mem_cons.1 hy with rfl|hy
    ·omega
    ·exact h2 y hy
def big:List Ext→Nat
 |[]=>0
 |e::l=>max e.2 (big l)
theorem big_app (a b:List Ext):big (a++b)=max (big a) (big b):=by
 induction a with
 |nil=>simp[big]
 |cons e a ih=>simp only[List.cons_append,big,ih];omega
theorem le_big:∀{l:List Ext} {e:Ext},e∈l→e.2≤big l
 |x::l,e,h=>by
  rcases List.mem_cons.1 h with rfl|h
  ·simp only[big];omega
  ·have:=le_big h;simp only[big];omega
theorem big_mem:∀{l:List Ext},0<big l→∃e∈l,e.2=big l
 |x::l,h=>by
  simp only[big] at h⊢
  by_cases hh:big l≤x.2
  ·exact⟨x,List.mem_cons_self,by omega⟩
  ·obtain⟨e,he,h2⟩:=big_mem (l:=l) (by omega)
   exact⟨e,List.mem_cons_of_mem _ he,by omega⟩
end Go.Spc
namespace Go.Proofs.YtammjnjpheobaaaGreat
open Go.SL Go.Spc
def ecells:List Ext→List Value
 |[]=>[]
 |e::l=> .int .i64 (e.1:Int):: .int .i64 (e.2:Int)::ecells l
@[simp] theorem ecells_length (l:List Ext):(ecells l).length=l.length*2:=by
 induction l with
 |nil=>rfl
 |cons e l ih=>simp only[ecells,List.length_cons,ih];omega
@[simp] theorem ecells_app (a b:List Ext):ecells (a++b)=ecells a++ecells b:=by
 induction a with
 |nil=>rfl
 |cons e a ih=>simp[ecells,ih]
theorem ecells_all (l:List Ext):(ecells l).all Value.oneCell'=true:=by
 induction l with
 |nil=>rfl
 |cons e l ih=>simpa[ecells,Value.oneCell'] using ih
theorem setL_ex {a c vs:List Value} {o:Nat} (ho:a.length=o) (h:vs.length≤c.length):∃y,setL (a++c) o vs=a++(vs++y)∧vs.length+y.length=c.length∧y=c.drop vs.length:=by
 subst ho
 refine⟨c.drop vs.length,?_,by simp;omega,rfl⟩
 rw[setL_eq _ _ _ (by simp;omega)]
 simp
theorem Vec.mk' {E sz b cap m:Nat} {cs xs rest:List Value} (hcs:cs=xs++rest) (h1:xs.length=m*sz) (h2:cap*sz≤cs.length) (h3:m≤cap) (h4:cap≤maxLen):Vec E sz (some ⟨b,0,none⟩) m cap xs [(b,row cs E)]:=by
 subst hcs
 exact⟨h1,.inr ⟨b,rest,rfl,rfl,by simpa using h2,h3,h4⟩⟩
theorem take_at {a c r:List Value} {o m:Nat} (ho:a.length=o) (h:c.length=m):((a++(c++r)).drop o).take m=c:=by
 subst ho h
 simp
theorem take_at0 {a r:List Value} {m:Nat} (h:a.length=m):((a++r).drop 0).take m=a:=by
 subst h
 simp
theorem RepZ_ct (p:Option Addr) (cap:Nat) (A B:List Ext) (x:Ext) (c:Chunk) (i n:Nat) (hi:A.length=i) (hn:n=i+1+B.length) (hm:n≤1000000) (hV:Vec 126 2 p n cap (ecells (A++[x]++B)) c):
  Ct Tryz.prog 161 [.slice p n cap,.int .i64 (i:Int),.int .i64 ((i:Int)+1),.slice none 0 0] [c] fun v H'=>
   ∃p' cap' c',v= .slice p' (i+B.length) cap'∧Vec 126 2 p' (i+B.length) cap' (ecells (A++B)) c'∧H'=[c']:=by
 obtain⟨hxl,hV⟩:=hV
 rcases hV with⟨_,h0,_⟩|⟨b,rest,rfl,rfl,hrl,hmc,hcm⟩
 ·omega
 simp only[ecells_app,List.append_assoc] at hxl hrl⊢
 have hxx:(ecells [x]).length=2:=rfl
 have hA2:(ecells A).length=i*2:=by rw[ecells_length,hi]
 have hB2:(ecells B).length=B.length*2:=ecells_length B
 have hlen:cap*2≤(ecells A++(ecells [x]++(ecells B++rest))).length:=by
  simp only[List.length_append] at hrl⊢;omega
 have e1:((i:Int)+1).toNat=i+1:=by omega
 have hcm':=hcm
 simp only[maxLen] at hcm'
 generalize ecells [x]=X at*
 have hall:=ecells_all B
 by_cases hB:B=[]
 ·subst hB
  simp only[List.length_nil,Nat.add_zero,ecells,List.nil_append] at hn hlen hB2⊢
  subst hn
  obtain⟨y,hs1,hy,_⟩:=setL_ex (vs:=zrep (i+1-i) [.int .i64 0,.int .i64 0]) (c:=X++rest) hA2 (by rw[zrep_length];simp only[List.length_append,List.length_cons,List.length_nil];omega)
  have hl2:i*2+(i+1-i)*2≤(ecells A++(X++rest)).length:=by simp only[List.length_append];omega
  refine Ct.intro Tryz.func161 rfl Tryz.ntmps161 (nle rfl) fun w0=> ?_;dsimp only[argSlots,Nat.reduceAdd]
  repeat(first|(refine st ?_;intros)|refine G.draw [] (h:= ?_))
  (refine Dn.post (Hr:=[[(b,row (ecells A++(zrep (i+1-i) [.int .i64 0,.int .i64 0]++y)) 126)]]) Tryz.results161 (hR:= ?_);refine⟨some ⟨b,0,none⟩,cap,_,rfl,?_,rfl⟩)
  refine Vec.mk' (rest:=zrep (i+1-i) [.int .i64 0,.int .i64 0]++y) (by simp) (by simpa using hA2) ?_ (by omega) hcm
  simp only[List.length_append] at hlen hy⊢
  omega
 ·have hB1:0<B.length:=List.length_pos_iff.2 hB
  have hBn:B.length=n-(i+1):=by omega
  have e2:((i:Int)+((0:Nat):Int)+((n-(i+1):Nat):Int)).toNat=n-1:=by omega
  have e3:((i:Int)+((0:Nat):Int)).toNat=i:=by omega
  have e4:Nat.min (n-(i+1)) (n-1-i)=n-(i+1):=Nat.min_eq_left (by omega)
  have e5:(ecells B).length=(n-(i+1))*2:=by omega
  have hX1:(ecells A++X).length=(i+1)*2:=by simp only[List.length_append];omega
  have hd:((ecells A++(X++(ecells B++rest))).drop ((i+1)*2)).take ((n-(i+1))*2)=ecells B:=by
   have:=take_at (a:=ecells A++X) (c:=ecells B) (r:=rest) hX1 e5
   rwa[List.append_assoc] at this
  obtain⟨y,hs1,hy,_⟩:=setL_ex (vs:=ecells B) (c:=X++(ecells B++rest)) hA2 (by simp only[List.length_append];omega)
  have hAB:(ecells A++ecells B).length=(n-1)*2:=by simp only[List.length_append];omega
  obtain⟨z,hs2,hz,_⟩:=setL_ex (vs:=zrep (n-(n-1)) [.int .i64 0,.int .i64 0]) (c:=y) hAB (by rw[zrep_length];simp only[List.length_append,List.length_cons,List.length_nil] at hy⊢;omega)
  rw[List.append_assoc,List.append_assoc] at hs2
  have hl1:i*2+(n-(i+1))*2≤(ecells A++(X++(ecells B++rest))).length:=by simp only[List.length_append] at hy⊢;omega
  have hl2:(n-1)*2+(n-(n-1))*2≤(ecells A++(ecells B++y)).length:=by simp only[List.length_append] at hy hlen⊢;omega
  have hn1:i+B.length=n-1:=by omega
  rw[hn1]
  refine Ct.intro Tryz.func161 rfl Tryz.ntmps161 (nle rfl) fun w0=> ?_;dsimp only[argSlots,Nat.reduceAdd]
  repeat(first|(refine st ?_;intros)|refine G.draw [] (h:= ?_))
  (refine Dn.post (Hr:=[[(b,row (ecells A++(ecells B++(zrep (n-(n-1)) [.int .i64 0,.int .i64 0]++z))) 126)]]) Tryz.results161 (hR:= ?_);refine⟨some ⟨b,0,none⟩,cap,_,rfl,?_,rfl⟩)
  refine Vec.mk' (rest:=zrep (n-(n-1)) [.int .i64 0,.int .i64 0]++z) (by simp) hAB ?_ (by omega) hcm
  simp only[List.length_append] at hlen hy hz⊢
  omega
theorem RepY_ct (p:Option Addr) (cap:Nat) (A B Xs:List Ext) (e:Ext) (c:Chunk) (i j n:Nat) (hi:A.length=i) (hj:j=i+Xs.length) (hx1:1≤Xs.length) (hx2:Xs.length≤2) (hn:n=j+B.length) (hm:n≤1000000) (bv cv:Nat) (restv:List Value) (jj:Int) (hjj:jj=(j:Int))
  (hV:Vec 126 2 p n cap (ecells (A++Xs++B)) c):
  Ct Tryz.prog 161 [.slice p n cap,.int .i64 (i:Int),.int .i64 jj,.slice (some ⟨bv,0,none⟩) 1 cv] [c,[(bv,row (ecells [e]++restv) 126)]] fun v H'=>
   ∃p' cap' c',v= .slice p' (i+1+B.length) cap'∧Vec 126 2 p' (i+1+B.length) cap' (ecells (A++[e]++B)) c'∧H'=[c']:=by
 subst hjj
 obtain⟨hxl,hV⟩:=hV
 rcases hV with⟨_,h0,_⟩|⟨b,rest,rfl,rfl,hrl,hmc,hcm⟩
 ·omega
 simp only[ecells_app,List.append_assoc] at hxl hrl⊢
 have hxx:(ecells Xs).length=(j-i)*2:=by rw[ecells_length];omega
 have hee:(ecells [e]).length=2:=rfl
 have hA2:(ecells A).length=i*2:=by rw[ecells_length,hi]
 have hB2:(ecells B).length=B.length*2:=ecells_length B
 have hlen:cap*2≤(ecells A++(ecells Xs++(ecells B++rest))).length:=by
  simp only[List.length_append] at hrl⊢;omega
 have hij:i+1≤j∧j≤i+2:=by omega
 clear hx1 hx2 hj hi
 have hcm':=hcm
 simp only[maxLen] at hcm'
 have hae:=ecells_all [e]
 have hall:=ecells_all B
 generalize ecells Xs=X at*
 generalize ecells [e]=V at*
 have hd0:((V++restv).drop 0).take (1*2)=V:=take_at0 (by omega)
 have hv2:V.length=1*2:=by omega
 obtain⟨y,hs1,hy,hyd⟩:=setL_ex (vs:=V) (c:=X++(ecells B++rest)) hA2 (by simp only[List.length_append];omega)
 have hl1:i*2+1*2≤(ecells A++(X++(ecells B++rest))).length:=by simp only[List.length_append] at hy⊢;omega
 by_cases hB:B=[]
 ·subst hB
  simp only[List.length_nil,Nat.add_zero,ecells,List.nil_append] at hn hlen hB2 hs1 hl1 hy⊢
  obtain rfl:=hn.symm
  by_cases hj2:j=i+1
  ·subst hj2
   refine Ct.intro Tryz.func161 rfl Tryz.ntmps161 (nle rfl) fun w0=> ?_;dsimp only[argSlots,Nat.reduceAdd]
   repeat(first|(refine st ?_;intros)|refine G.draw [] (h:= ?_))
   (refine Dn.post (Hr:=[[(b,row (ecells A++(V++y)) 126)]]) Tryz.results161 (hR:= ?_);refine⟨some ⟨b,0,none⟩,cap,_,rfl,?_,rfl⟩)
   refine Vec.mk' (rest:=y) (by simp) (by simp only[List.append_nil,List.length_append];omega) ?_ (by omega) hcm
   simp only[List.length_append] at hlen hy⊢
   omega
  ·have hAV:(ecells A++V).length=(i+1)*2:=by simp only[List.length_append];omega
   obtain⟨z,hs2,hz,_⟩:=setL_ex (vs:=zrep (j-(i+1)) [.int .i64 0,.int .i64 0]) (c:=y) hAV (by rw[zrep_length];simp only[List.length_append,List.length_cons,List.length_nil] at hy⊢;omega)
   rw[List.append_assoc,List.append_assoc] at hs2
   have hl2:(i+1)*2+(j-(i+1))*2≤(ecells A++(V++y)).length:=by simp only[List.length_append] at hy hlen⊢;omega
   refine Ct.intro Tryz.func161 rfl Tryz.ntmps161 (nle rfl) fun w0=> ?_;dsimp only[argSlots,Nat.reduceAdd]
   repeat(first|(refine st ?_;intros)|refine G.draw [] (h:= ?_))
   (refine Dn.post (Hr:=[[(b,row (ecells A++(V++(zrep (j-(i+1)) [.int .i64 0,.int .i64 0]++z))) 126)]]) Tryz.results161 (hR:= ?_);refine⟨some ⟨b,0,none⟩,cap,_,rfl,?_,rfl⟩)
   refine Vec.mk' (rest:=zrep (j-(i+1)) [.int .i64 0,.int .i64 0]++z) (by simp) (by simp only[List.append_nil,List.length_append];omega) ?_ (by omega) hcm
   simp only[List.length_append] at hlen hy hz⊢
   omega
 ·have hB1:0<B.length:=List.length_pos_iff.2 hB
  have hBn:B.length=n-j:=by omega
  have e2:((i:Int)+((1:Nat):Int)+((n-j:Nat):Int)).toNat=i+1+(n-j):=by omega
  have e3:((i:Int)+((1:Nat):Int)).toNat=i+1:=by omega
  have e4:Nat.min 1 (i+1+(n-j)-i)=1:=Nat.min_eq_left (by omega)
  have e5:Nat.min (n-j) (i+1+(n-j)-(i+1))=n-j:=Nat.min_eq_left (by omega)
  have e6:(ecells B).length=(n-j)*2:=by omega
  have hAV:(ecells A++V).length=(i+1)*2:=by simp only[List.length_append];omega
  have hyB:y=X.drop 2++(ecells B++rest):=by
   rw[hyd,hee,List.drop_append_of_le_length (by omega)]
  have hX1:(ecells A++(V++X.drop 2)).length=j*2:=by simp only[List.length_append,List.length_drop];omega
  have hd:((ecells A++(V++y)).drop (j*2)).take ((n-j)*2)=ecells B:=by
   have:=take_at (a:=ecells A++(V++X.drop 2)) (c:=ecells B) (r:=rest) hX1 e6
   rw[hyB]
   simpa only[List.append_assoc] using this
  obtain⟨z,hs2,hz,_⟩:=setL_ex (vs:=ecells B) (c:=y) hAV (by rw[hyB];simp only[List.length_append];omega)
  rw[List.append_assoc,List.append_assoc] at hs2
  have hl2:(i+1)*2+(n-j)*2≤(ecells A++(V++y)).length:=by rw[hyB];simp only[List.length_append,List.length_drop] at hlen⊢;omega
  have hn1:i+1+B.length=i+1+(n-j):=by omega
  have hcl:cap*2≤(ecells A++(V++(ecells B++z))).length:=by
   simp only[List.length_append] at hlen hy hz⊢;omega
  rw[hn1]
  by_cases hj2:j=i+1
  ·refine Ct.intro Tryz.func161 rfl Tryz.ntmps161 (nle rfl) fun w0=> ?_;dsimp only[argSlots,Nat.reduceAdd]
   repeat(first|(refine st ?_;intros)|refine G.draw [] (h:= ?_))
   (refine Dn.post (Hr:=[[(b,row (ecells A++(V++(ecells B++z))) 126)]]) Tryz.results161 (hR:= ?_);refine⟨some ⟨b,0,none⟩,cap,_,rfl,?_,rfl⟩)
   exact Vec.mk' (rest:=z) (by simp) (by simp only[List.length_append];omega) hcl (by omega) hcm
  ·have hABV:(ecells A++(V++ecells B)).length=(i+1+(n-j))*2:=by simp only[List.length_append];omega
   obtain⟨u,hs3,hu,_⟩:=setL_ex (vs:=zrep (n-(i+1+(n-j))) [.int .i64 0,.int .i64 0]) (c:=z) hABV (by rw[zrep_length];simp only[List.length_append,List.length_cons,List.length_nil] at hy hz⊢;omega)
   simp only[List.append_assoc] at hs3
   have hl3:(i+1+(n-j))*2+(n-(i+1+(n-j)))*2≤(ecells A++(V++(ecells B++z))).length:=by omega
   refine Ct.intro Tryz.func161 rfl Tryz.ntmps161 (nle rfl) fun w0=> ?_;dsimp only[argSlots,Nat.reduceAdd]
   repeat(first|(refine st ?_;intros)|refine G.draw [] (h:= ?_))
   (refine Dn.post (Hr:=[[(b,row (ecells A++(V++(ecells B++(zrep (n-(i+1+(n-j))) [.int .i64 0,.int .i64 0]++u)))) 126)]]) Tryz.results161 (hR:= ?_);refine⟨some ⟨b,0,none⟩,cap,_,rfl,?_,rfl⟩)
   refine Vec.mk' (rest:=zrep (n-(i+1+(n-j))) [.int .i64 0,.int .i64 0]++u) (by simp) (by simp only[List.length_append];omega) ?_ (by omega) hcm
   simp only[List.length_append] at hcl hu⊢
   omega
theorem overlaps_no {w:World} {w0:World} {S:List Nat} {H:Hp} (hst:St w0 S w H) {ba oa la ca bb ob lb cb:Nat} {csa csb:List Value} {tA tB:TypeId} (ha:Has ba (row csa tA) H) (hb:Has bb (row csb tB) H) (hne:ba≠bb) (hlen:csb.length≠0):
  (callFunc 177 #[.slice (some ⟨ba,oa,none⟩) la ca,.slice (some ⟨bb,ob,none⟩) lb cb]).run Tryz.prog w= .ok (.value (.bool false)) w:=by
 rw[run_callFunc_extern Tryz.func177 (by kernel_rfl) (by kernel_rfl) (by kernel_rfl) (e:=Extern.SlicesOverlaps.overlaps #[127,127] #[4]) (by kernel_rfl),
  run_overlaps (SliceT.und (P:=Tryz.prog) (T:=127)) (fun w=>SliceT.size (P:=Tryz.prog) (T:=127) w) hne (ha.st hst) (hb.st hst) hlen]
 rfl
theorem Ins_ct (p:Option Addr) (cap:Nat) (A B:List Ext) (e:Ext) (c:Chunk) (i n:Nat) (hi:A.length=i) (hn:n=i+B.length) (hm:n≤1000000) (bv cv:Nat) (restv:List Value) (hV:Vec 126 2 p n cap (ecells (A++B)) c):
  Ct Tryz.prog 176 [.slice p n cap,.int .i64 (i:Int),.slice (some ⟨bv,0,none⟩) 1 cv] [c,[(bv,row (ecells [e]++restv) 126)]] fun v H'=>
   ∃p' cap' c',v= .slice p' (i+1+B.length) cap'∧Vec 126 2 p' (i+1+B.length) cap' (ecells (A++[e]++B)) c'∧H'=[c']:=by
 have hVV:=hV
 have hee:(ecells [e]).length=2:=rfl
 have hA2:(ecells A).length=i*2:=by rw[ecells_length,hi]
 have hB2:(ecells B).length=B.length*2:=ecells_length B
 have hae:=ecells_all [e]
 have hall:=ecells_all B
 have hd0:((ecells [e]++restv).drop 0).take (1*2)=ecells [e]:=take_at0 (by omega)
 have hv2:(ecells [e]).length=1*2:=by omega
 have hb1:n≤cap:=by
  obtain⟨_,h|⟨b,rest,_,_,_,h,_⟩⟩:=hV
  ·omega
  ·exact h
 by_cases hB:B=[]
 ·subst hB
  simp only[List.length_nil,Nat.add_zero,List.append_nil] at hn⊢
  obtain rfl:=hn.symm
  rw[List.append_nil] at hV hVV
  rw[ecells_app]
  have hlc:(i:Int)≤(i:Int):=Int.le_refl _
  refine Ct.intro Tryz.func176 rfl Tryz.ntmps176 (nle rfl) fun w0=> ?_;dsimp only[argSlots,Nat.reduceAdd]
  repeat(first|(refine st ?_;intros)|refine G.draw [] (h:= ?_))
  rename_i p' cap' c' hV'
  (refine Dn.post (Hr:=[c']) Tryz.results176 (hR:= ?_);exact⟨p',cap',c',rfl,hV',rfl⟩)
 ·have hB1:0<B.length:=List.length_pos_iff.2 hB
  obtain⟨hxl,hV⟩:=hV
  rcases hV with⟨_,h0,_⟩|⟨b,rest,rfl,rfl,hrl,hmc,hcm⟩
  ·omega
  clear hVV
  simp only[ecells_app,List.append_assoc] at hxl hrl⊢
  have hlen:cap*2≤(ecells A++(ecells B++rest)).length:=by simp only[List.length_append] at hrl⊢;omega
  have hcm':=hcm
  simp only[maxLen] at hcm'
  generalize hVe:ecells [e]=V at*
  have e5:(ecells B).length=(n-i)*2:=by omega
  have hd:((ecells A++(ecells B++rest)).drop (i*2)).take ((n-i)*2)=ecells B:=take_at hA2 e5
  have hn1:i+1+B.length=n+1:=by omega
  rw[hn1]
  have hAV:(ecells A++V).length=(i+1)*2:=by simp only[List.length_append];omega
  have e6:((i:Int)+((1:Nat):Int)).toNat=i+1:=by omega
  by_cases hroom:n+1≤cap
  ·have e7:((n:Int)+((1:Nat):Int)).toNat=n+1:=by omega
   have e8:Nat.min (n+1-i) (n+1-(i+1))=n-i:=by rw[show n+1-(i+1)=n-i by omega];exact Nat.min_eq_right (by omega)
   have e9:Nat.min 1 (n+1-i)=1:=Nat.min_eq_left (by omega)
   have hc1:((ecells A++(ecells B++rest)).take ((i+1)*2)).length=(i+1)*2:=by rw[List.length_take];omega
   obtain⟨y,hs1,hy,_⟩:=setL_ex (vs:=ecells B) (c:=(ecells A++(ecells B++rest)).drop ((i+1)*2)) hc1 (by rw[List.length_drop];omega)
   rw[List.take_append_drop] at hs1
   have hs1':(ecells A++(ecells B++rest)).take ((i+1)*2)=ecells A++(ecells B++rest).take 2:=by
    rw[List.take_append,hA2,List.take_of_length_le (by omega)]
    congr 2;omega
   rw[hs1',List.append_assoc] at hs1
   have hl1:(i+1)*2+(n-i)*2≤(ecells A++(ecells B++rest)).length:=by omega
   have ht2:((ecells B++rest).take 2).length=2:=by rw[List.length_take,List.length_append];omega
   have hyl:cap*2≤(ecells A++((ecells B++rest).take 2++(ecells B++y))).length:=by
    simp only[List.length_append,List.length_drop] at hy hlen⊢;omega
   obtain⟨z,hs2,hz,hzd⟩:=setL_ex (vs:=V) (c:=(ecells B++rest).take 2++(ecells B++y)) hA2 (by simp only[List.length_append];omega)
   have hzd':z=ecells B++y:=by
    rw[hzd,hee,List.drop_append_of_le_length (by omega),List.drop_of_length_le (by omega),List.nil_append]
   subst hzd'
   have hl2:i*2+1*2≤(ecells A++((ecells B++rest).take 2++(ecells B++y))).length:=by omega
   have hdB:((ecells A++(ecells B++rest)).drop (i*2)).take ((n-i)*2)=ecells B:=hd
   refine Ct.intro Tryz.func176 rfl Tryz.ntmps176 (nle rfl) fun w0=> ?_;dsimp only[argSlots,Nat.reduceAdd]
   repeat(first|(refine st ?_;intros)|refine G.draw [] (h:= ?_))
   apply R1.nodup
   ·exact rfl
   intro hnd
   have hne:bv≠b:=by
    intro h;subst h
    simp[keys] at hnd
   apply R.callE
   ·exact rfl
   ·intro _ _ w hst
    exact overlaps_no (hst) (csa:=V++restv) (csb:=ecells A++(ecells B++rest)) (by repeat(first|exact Has.here|apply Has.there)) (by repeat(first|exact Has.here|apply Has.there)) hne (by omega)
   ·exact rfl
   ·exact nle rfl
   repeat(first|(refine st ?_;intros)|refine G.draw [] (h:= ?_))
   (refine Dn.post (Hr:=[[(b,row (ecells A++(V++(ecells B++y))) 126)]]) Tryz.results176 (hR:= ?_);refine⟨some ⟨b,0,none⟩,cap,_,rfl,?_,rfl⟩)
   refine Vec.mk' (rest:=y) (by simp) (by simp only[List.length_append];omega) ?_ (by omega) hcm
   simp only[List.length_append] at hyl⊢
   omega
  ·have e7:(n:Int)+((1:Nat):Int)-(i:Int)=((n+1-i:Nat):Int):=by omega
   have e8:Nat.min (n-i) (i+(n+1-i)-(i+1))=n-i:=Nat.min_eq_left (by omega)
   have e9:Nat.min 1 (i+(n+1-i)-i)=1:=Nat.min_eq_left (by omega)
   have e10:(ecells A++(ecells B++rest)).take (i*2)=ecells A:=by
    rw[List.take_append_of_le_length (by omega),List.take_of_length_le (by omega)]
   have hzl:(zrep (n+1-i) [Value.int .i64 0,Value.int .i64 0]).length=(n+1-i)*2:=by rw[zrep_length];rfl
   have hl0:i*2≤(ecells A++(ecells B++rest)).length:=by omega
   refine Ct.intro Tryz.func176 rfl Tryz.ntmps176 (nle rfl) fun w0=> ?_;dsimp only[argSlots,Nat.reduceAdd]
   repeat(first|(refine st ?_;intros)|refine G.draw [] (h:= ?_))
   rename_i b' cap' rest' hr1 hr2 hr3
   rw[e10] at hr1⊢
   obtain⟨y,hs1,hy,_⟩:=setL_ex (vs:=V) (c:=zrep (n+1-i) [.int .i64 0,.int .i64 0]++rest') hA2 (by simp only[List.length_append];omega)
   rw[←List.append_assoc] at hs1
   have hl1:i*2+1*2≤(ecells A++zrep (n+1-i) [.int .i64 0,.int .i64 0]++rest').length:=by simp only[List.length_append];omega
   obtain⟨z,hs2,hz,_⟩:=setL_ex (vs:=ecells B) (c:=y) hAV (by simp only[List.length_append] at hy⊢;omega)
   simp only[List.append_assoc] at hs2
   have hl2:(i+1)*2+(n-i)*2≤(ecells A++(V++y)).length:=by simp only[List.length_append] at hy⊢;omega
   repeat(first|(refine st ?_;intros)|refine G.draw [] (h:= ?_))
   (refine Dn.post (Hr:=[[(b',row (ecells A++(V++(ecells B++z))) 126)]]) Tryz.results176 (hR:= ?_);refine⟨some ⟨b',0,none⟩,cap',_,?_,?_,rfl⟩)
   ·show Value.slice (some ⟨b',0,none⟩) (i+(n+1-i)) cap'=_
    rw[show i+(n+1-i)=n+1 by omega]
   refine Vec.mk' (rest:=z) (by simp) (by simp only[List.length_append];omega) ?_ (by omega) hr3
   simp only[List.length_append] at hr1 hy hz⊢
   omega
end Go.Proofs.YtammjnjpheobaaaGreat
