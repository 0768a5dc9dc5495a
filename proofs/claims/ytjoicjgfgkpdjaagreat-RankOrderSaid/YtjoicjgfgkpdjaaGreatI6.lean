/-
  Parts of the proof, put together: Inst, TupPlain, TupMore, Tup, TupSl, Lib, Crc, Seal, Seal2, LastW. No condition.
-/
import Derived.Test.YtjoicjgfgkpdjaaGreatProg
import Derived.Test.YtjoicjgfgkpdjaaGreatI5
set_option linter.unusedVariables false
set_option linter.unusedSimpArgs false
set_option linter.unnecessarySimpa false
set_option maxHeartbeats 4000000
namespace Go.Proofs.YtjoicjgfgkpdjaaGreat
open Go.SL
set_option maxRecDepth 100000
instance:Cell1 Tryz.prog 2:=⟨Tryz.isAgg2,Tryz.sizeOf2⟩
instance:IntT Tryz.prog 2 .i64:=⟨Tryz.underlying2⟩
instance:ZeroV Tryz.prog 2 [.int .i64 0]:=⟨_,rfl,Tryz.zeroValue2⟩
instance:Cell1 Tryz.prog 3:=⟨Tryz.isAgg3,Tryz.sizeOf3⟩
instance:IntT Tryz.prog 3 .i64:=⟨Tryz.underlying3⟩
instance:ZeroV Tryz.prog 3 [.int .i64 0]:=⟨_,rfl,Tryz.zeroValue3⟩
instance:Cell1 Tryz.prog 4:=⟨Tryz.isAgg4,Tryz.sizeOf4⟩
instance:ZeroV Tryz.prog 4 [.bool false]:=⟨_,rfl,Tryz.zeroValue4⟩
instance:IntT Tryz.prog 5 .u8:=⟨Tryz.underlying5⟩
instance:Cell1 Tryz.prog 24:=⟨Tryz.isAgg24,Tryz.sizeOf24⟩
instance:PtrT Tryz.prog 24:=⟨by kernel_rfl⟩
instance:AggN Tryz.prog 27 4:=⟨Tryz.isAgg27,Tryz.sizeOf27⟩
instance:FieldOff Tryz.prog 27 0 0:=FieldOff.of (m:=0) _ _ Tryz.underlying27 rfl rfl Tryz.sizeOf3
instance:FieldOff Tryz.prog 27 1 1:=FieldOff.of (m:=0) _ _ Tryz.underlying27 rfl rfl Tryz.sizeOf3
instance:FieldOff Tryz.prog 27 2 2:=FieldOff.of (m:=0) _ _ Tryz.underlying27 rfl rfl Tryz.sizeOf3
instance:FieldOff Tryz.prog 27 3 3:=FieldOff.of (m:=0) _ _ Tryz.underlying27 rfl rfl Tryz.sizeOf3
instance:BuildT Tryz.prog 27 (fun i=>([(0,1),(1,1),(2,1),(3,1)]:List (Nat×Nat))[i]?) [.int .i64 0,.int .i64 0,.int .i64 0,.int .i64 0]:=BuildT.ofS (fun parts=>by kernel_rfl)
instance:Eq4 Tryz.prog 27:=Eq4.of Tryz.underlying27 (by decide) ⟨rfl,rfl,rfl,rfl⟩ Tryz.underlying3 Tryz.isAgg3 Tryz.eqGuardType27 Tryz.stoodInHeld27
instance:ZeroV Tryz.prog 27 [.int .i64 0,.int .i64 0,.int .i64 0,.int .i64 0]:=⟨_,rfl,Tryz.zeroValue27⟩
instance:ElemT Tryz.prog 27 4 32 [.int .i64 0,.int .i64 0,.int .i64 0,.int .i64 0]:=⟨by kernel_rfl⟩
instance:Cell1 Tryz.prog 28:=⟨Tryz.isAgg28,Tryz.sizeOf28⟩
instance:Cell1 Tryz.prog 31:=⟨Tryz.isAgg31,Tryz.sizeOf31⟩
instance:PtrT Tryz.prog 31:=⟨by kernel_rfl⟩
instance:SliceT Tryz.prog 35 2 1:=⟨Tryz.underlying35,Tryz.sizeOf2⟩
instance:SliceT Tryz.prog 36 38 5:=⟨Tryz.underlying36,Tryz.sizeOf38⟩
instance:AggN Tryz.prog 38 5:=⟨Tryz.isAgg38,Tryz.sizeOf38⟩
instance:ArrT Tryz.prog 38 5 2 1:=⟨Tryz.underlying38,Tryz.sizeOf2⟩
instance:BuildT Tryz.prog 38 (fun i=>some (i*1,1)) [.int .i64 0,.int .i64 0,.int .i64 0,.int .i64 0,.int .i64 0]:=⟨fun parts=>by kernel_rfl⟩
instance:Eq5 Tryz.prog 38:=Eq5.of Tryz.underlying38 Tryz.underlying2 Tryz.type2 Tryz.isAgg2 (by kernel_rfl) Tryz.eqGuardType38
instance:ZeroV Tryz.prog 38 [.int .i64 0,.int .i64 0,.int .i64 0,.int .i64 0,.int .i64 0]:=⟨_,rfl,Tryz.zeroValue38⟩
instance:ElemT Tryz.prog 38 5 40 [.int .i64 0,.int .i64 0,.int .i64 0,.int .i64 0,.int .i64 0]:=⟨by kernel_rfl⟩
instance:Cell1 Tryz.prog 47:=⟨Tryz.isAgg47,Tryz.sizeOf47⟩
instance:PtrT Tryz.prog 47:=⟨by kernel_rfl⟩
instance:Cell1 Tryz.prog 51:=⟨Tryz.isAgg51,Tryz.sizeOf51⟩
instance:SliceT Tryz.prog 51 27 4:=⟨Tryz.underlying51,Tryz.sizeOf27⟩
instance:Cell1 Tryz.prog 73:=⟨Tryz.isAgg73,Tryz.sizeOf73⟩
instance:PtrT Tryz.prog 73:=⟨by kernel_rfl⟩
instance:Cell1 Tryz.prog 75:=⟨Tryz.isAgg75,Tryz.sizeOf75⟩
instance:AggN Tryz.prog 84 5:=⟨Tryz.isAgg84,Tryz.sizeOf84⟩
instance:ArrT Tryz.prog 84 5 3 1:=⟨Tryz.underlying84,Tryz.sizeOf3⟩
instance:BuildT Tryz.prog 84 (fun i=>some (i*1,1)) [.int .i64 0,.int .i64 0,.int .i64 0,.int .i64 0,.int .i64 0]:=⟨fun parts=>by kernel_rfl⟩
instance:FieldOff Tryz.prog 87 0 0:=FieldOff.of (m:=0) _ _ Tryz.underlying87 rfl rfl Tryz.sizeOf47
instance:FieldOff Tryz.prog 87 1 1:=FieldOff.of (m:=0) _ _ Tryz.underlying87 rfl rfl Tryz.sizeOf31
instance:FieldOff Tryz.prog 87 2 2:=FieldOff.of (m:=0) _ _ Tryz.underlying87 rfl rfl Tryz.sizeOf73
instance:BuildT Tryz.prog 87 (fun i=>([(0,1),(1,1),(2,1)]:List (Nat×Nat))[i]?) [.pointer none,.pointer none,.pointer none]:=BuildT.ofS (fun parts=>by kernel_rfl)
instance:Cell1 Tryz.prog 88:=⟨Tryz.isAgg88,Tryz.sizeOf88⟩
instance:MapT Tryz.prog 88 137 3:=⟨Tryz.underlying88⟩
instance:FieldOff Tryz.prog 90 0 0:=FieldOff.of (m:=0) _ _ Tryz.underlying90 rfl rfl Tryz.sizeOf3
instance:FieldOff Tryz.prog 90 1 1:=FieldOff.of (m:=0) _ _ Tryz.underlying90 rfl rfl Tryz.sizeOf3
instance:FieldOff Tryz.prog 90 2 2:=FieldOff.of (m:=0) _ _ Tryz.underlying90 rfl rfl Tryz.sizeOf3
instance:FieldOff Tryz.prog 90 3 3:=FieldOff.of (m:=0) _ _ Tryz.underlying90 rfl rfl Tryz.sizeOf88
instance:BuildT Tryz.prog 90 (fun i=>([(0,1),(1,1),(2,1),(3,1)]:List (Nat×Nat))[i]?) [.int .i64 0,.int .i64 0,.int .i64 0,.map none]:=BuildT.ofS (fun parts=>by kernel_rfl)
instance:Cell1 Tryz.prog 91:=⟨Tryz.isAgg91,Tryz.sizeOf91⟩
instance:PtrT Tryz.prog 91:=⟨by kernel_rfl⟩
instance:ZeroV Tryz.prog 91 [.pointer none]:=⟨_,rfl,Tryz.zeroValue91⟩
instance:Cell1 Tryz.prog 95:=⟨Tryz.isAgg95,Tryz.sizeOf95⟩
instance:PtrT Tryz.prog 95:=⟨by kernel_rfl⟩
instance:FieldOff Tryz.prog 102 0 0:=FieldOff.of (m:=0) _ _ Tryz.underlying102 rfl rfl Tryz.sizeOf24
instance:FieldOff Tryz.prog 102 1 1:=FieldOff.of (m:=0) _ _ Tryz.underlying102 rfl rfl Tryz.sizeOf28
instance:FieldOff Tryz.prog 102 2 2:=FieldOff.of (m:=0) _ _ Tryz.underlying102 rfl rfl Tryz.sizeOf51
instance:BuildT Tryz.prog 102 (fun i=>([(0,1),(1,1),(2,1)]:List (Nat×Nat))[i]?) [.pointer none,.int .i64 0,.slice none 0 0]:=BuildT.ofS (fun parts=>by kernel_rfl)
instance:Cell1 Tryz.prog 108:=⟨Tryz.isAgg108,Tryz.sizeOf108⟩
instance:Cell1 Tryz.prog 109:=⟨Tryz.isAgg109,Tryz.sizeOf109⟩
instance:MapT Tryz.prog 109 3 148:=⟨Tryz.underlying109⟩
instance:Cell1 Tryz.prog 110:=⟨Tryz.isAgg110,Tryz.sizeOf110⟩
instance:SliceT Tryz.prog 110 194 2:=⟨Tryz.underlying110,Tryz.sizeOf194⟩
instance:FieldOff Tryz.prog 112 0 0:=FieldOff.of (m:=0) _ _ Tryz.underlying112 rfl rfl Tryz.sizeOf3
instance:FieldOff Tryz.prog 112 1 1:=FieldOff.of (m:=0) _ _ Tryz.underlying112 rfl rfl Tryz.sizeOf3
instance:FieldOff Tryz.prog 112 3 3:=FieldOff.of (m:=0) _ _ Tryz.underlying112 rfl rfl Tryz.sizeOf109
instance:FieldOff Tryz.prog 112 4 4:=FieldOff.of (m:=0) _ _ Tryz.underlying112 rfl rfl Tryz.sizeOf110
instance:FieldOff Tryz.prog 112 5 5:=FieldOff.of (m:=0) _ _ Tryz.underlying112 rfl rfl Tryz.sizeOf3
instance:FieldOff Tryz.prog 112 6 6:=FieldOff.of (m:=0) _ _ Tryz.underlying112 rfl rfl Tryz.sizeOf3
instance:FieldOff Tryz.prog 112 7 7:=FieldOff.of (m:=0) _ _ Tryz.underlying112 rfl rfl Tryz.sizeOf4
instance:FieldOff Tryz.prog 112 8 8:=FieldOff.of (m:=0) _ _ Tryz.underlying112 rfl rfl Tryz.sizeOf3
instance:BuildT Tryz.prog 112 (fun i=>([(0,1),(1,1),(2,1),(3,1),(4,1),(5,1),(6,1),(7,1),(8,1)]:List (Nat×Nat))[i]?) [.int .i64 0,.int .i64 0,.map none,.map none,.slice none 0 0,.int .i64 0,.int .i64 0,.bool false,.int .i64 0]:=BuildT.ofS (fun parts=>by kernel_rfl)
instance:AggN Tryz.prog 119 2:=⟨Tryz.isAgg119,Tryz.sizeOf119⟩
instance:FieldOff Tryz.prog 119 0 0:=FieldOff.of (m:=0) _ _ Tryz.underlying119 rfl rfl Tryz.sizeOf3
instance:FieldOff Tryz.prog 119 1 1:=FieldOff.of (m:=0) _ _ Tryz.underlying119 rfl rfl Tryz.sizeOf3
instance:BuildT Tryz.prog 119 (fun i=>([(0,1),(1,1)]:List (Nat×Nat))[i]?) [.int .i64 0,.int .i64 0]:=BuildT.ofS (fun parts=>by kernel_rfl)
instance:ZeroV Tryz.prog 119 [.int .i64 0,.int .i64 0]:=⟨_,rfl,Tryz.zeroValue119⟩
instance:ElemT Tryz.prog 119 2 16 [.int .i64 0,.int .i64 0]:=⟨by kernel_rfl⟩
instance:Cell1 Tryz.prog 120:=⟨Tryz.isAgg120,Tryz.sizeOf120⟩
instance:SliceT Tryz.prog 120 119 2:=⟨Tryz.underlying120,Tryz.sizeOf119⟩
instance:FieldOff Tryz.prog 122 0 0:=FieldOff.of (m:=1) _ _ Tryz.underlying122 rfl rfl Tryz.sizeOf119
instance:FieldOff Tryz.prog 122 1 2:=FieldOff.of (m:=0) _ _ Tryz.underlying122 rfl rfl Tryz.sizeOf120
instance:BuildT Tryz.prog 122 (fun i=>([(0,2),(2,1)]:List (Nat×Nat))[i]?) [.int .i64 0,.int .i64 0,.slice none 0 0]:=BuildT.ofS (fun parts=>by kernel_rfl)
instance:Cell1 Tryz.prog 125:=⟨Tryz.isAgg125,Tryz.sizeOf125⟩
instance:IntT Tryz.prog 125 .u64:=⟨Tryz.underlying125⟩
instance:ElemT Tryz.prog 125 1 8 [.int .u64 0]:=⟨by kernel_rfl⟩
instance:Cell1 Tryz.prog 137:=⟨Tryz.isAgg137,Tryz.sizeOf137⟩
instance:PtrT Tryz.prog 137:=⟨by kernel_rfl⟩
instance:PtrKey Tryz.prog 137:=⟨150,1,Tryz.underlying137,by decide,Tryz.sizeOf150⟩
instance:FieldOff Tryz.prog 142 0 0:=FieldOff.of (m:=0) _ _ Tryz.underlying142 rfl rfl Tryz.sizeOf24
instance:FieldOff Tryz.prog 142 1 1:=FieldOff.of (m:=3) _ _ Tryz.underlying142 rfl rfl Tryz.sizeOf27
instance:FieldOff Tryz.prog 142 2 5:=FieldOff.of (m:=0) _ _ Tryz.underlying142 rfl rfl Tryz.sizeOf3
instance:FieldOff Tryz.prog 142 3 6:=FieldOff.of (m:=0) _ _ Tryz.underlying142 rfl rfl Tryz.sizeOf137
instance:FieldOff Tryz.prog 142 4 7:=FieldOff.of (m:=0) _ _ Tryz.underlying142 rfl rfl Tryz.sizeOf3
instance:FieldOff Tryz.prog 142 5 8:=FieldOff.of (m:=0) _ _ Tryz.underlying142 rfl rfl Tryz.sizeOf3
instance:FieldOff Tryz.prog 142 6 9:=FieldOff.of (m:=0) _ _ Tryz.underlying142 rfl rfl Tryz.sizeOf4
instance:BuildT Tryz.prog 142 (fun i=>([(0,1),(1,4),(5,1),(6,1),(7,1),(8,1),(9,1)]:List (Nat×Nat))[i]?) [.pointer none,.int .i64 0,.int .i64 0,.int .i64 0,.int .i64 0,.int .i64 0,.pointer none,.int .i64 0,.int .i64 0,.bool false]:=BuildT.ofS (fun parts=>by kernel_rfl)
instance:Cell1 Tryz.prog 148:=⟨Tryz.isAgg148,Tryz.sizeOf148⟩
instance:SliceT Tryz.prog 148 125 1:=⟨Tryz.underlying148,Tryz.sizeOf125⟩
instance:FieldOff Tryz.prog 150 0 0:=FieldOff.of (m:=0) _ _ Tryz.underlying150 rfl rfl Tryz.sizeOf148
instance:BuildT Tryz.prog 150 (fun i=>([(0,1)]:List (Nat×Nat))[i]?) [.slice none 0 0]:=BuildT.ofS (fun parts=>by kernel_rfl)
instance:FieldOff Tryz.prog 153 0 0:=FieldOff.of (m:=0) _ _ Tryz.underlying153 rfl rfl Tryz.sizeOf24
instance:FieldOff Tryz.prog 153 1 1:=FieldOff.of (m:=3) _ _ Tryz.underlying153 rfl rfl Tryz.sizeOf27
instance:FieldOff Tryz.prog 153 2 5:=FieldOff.of (m:=0) _ _ Tryz.underlying153 rfl rfl Tryz.sizeOf137
instance:FieldOff Tryz.prog 153 3 6:=FieldOff.of (m:=0) _ _ Tryz.underlying153 rfl rfl Tryz.sizeOf3
instance:FieldOff Tryz.prog 153 4 7:=FieldOff.of (m:=0) _ _ Tryz.underlying153 rfl rfl Tryz.sizeOf3
instance:FieldOff Tryz.prog 153 5 8:=FieldOff.of (m:=0) _ _ Tryz.underlying153 rfl rfl Tryz.sizeOf3
instance:FieldOff Tryz.prog 153 6 9:=FieldOff.of (m:=0) _ _ Tryz.underlying153 rfl rfl Tryz.sizeOf3
instance:FieldOff Tryz.prog 153 7 10:=FieldOff.of (m:=0) _ _ Tryz.underlying153 rfl rfl Tryz.sizeOf4
instance:BuildT Tryz.prog 153 (fun i=>([(0,1),(1,4),(5,1),(6,1),(7,1),(8,1),(9,1),(10,1)]:List (Nat×Nat))[i]?) [.pointer none,.int .i64 0,.int .i64 0,.int .i64 0,.int .i64 0,.pointer none,.int .i64 0,.int .i64 0,.int .i64 0,.int .i64 0,.bool false]:=BuildT.ofS (fun parts=>by kernel_rfl)
instance:IntT Tryz.prog 159 .u64:=⟨Tryz.underlying159⟩
instance:FieldOff Tryz.prog 164 0 0:=FieldOff.of (m:=0) _ _ Tryz.underlying164 rfl rfl Tryz.sizeOf24
instance:FieldOff Tryz.prog 164 1 1:=FieldOff.of (m:=4) _ _ Tryz.underlying164 rfl rfl Tryz.sizeOf84
instance:FieldOff Tryz.prog 164 2 6:=FieldOff.of (m:=0) _ _ Tryz.underlying164 rfl rfl Tryz.sizeOf4
instance:FieldOff Tryz.prog 164 3 7:=FieldOff.of (m:=0) _ _ Tryz.underlying164 rfl rfl Tryz.sizeOf51
instance:FieldOff Tryz.prog 164 4 8:=FieldOff.of (m:=4) _ _ Tryz.underlying164 rfl rfl Tryz.sizeOf38
instance:FieldOff Tryz.prog 164 5 13:=FieldOff.of (m:=0) _ _ Tryz.underlying164 rfl rfl Tryz.sizeOf4
instance:BuildT Tryz.prog 164 (fun i=>([(0,1),(1,5),(6,1),(7,1),(8,5),(13,1)]:List (Nat×Nat))[i]?) [.pointer none,.int .i64 0,.int .i64 0,.int .i64 0,.int .i64 0,.int .i64 0,.bool false,.slice none 0 0,.int .i64 0,.int .i64 0,.int .i64 0,.int .i64 0,.int .i64 0,.bool false]:=BuildT.ofS (fun parts=>by kernel_rfl)
instance:Cell1 Tryz.prog 178:=⟨Tryz.isAgg178,Tryz.sizeOf178⟩
instance:FieldOff Tryz.prog 180 0 0:=FieldOff.of (m:=0) _ _ Tryz.underlying180 rfl rfl Tryz.sizeOf178
instance:FieldOff Tryz.prog 180 1 1:=FieldOff.of (m:=4) _ _ Tryz.underlying180 rfl rfl Tryz.sizeOf38
instance:FieldOff Tryz.prog 180 2 6:=FieldOff.of (m:=0) _ _ Tryz.underlying180 rfl rfl Tryz.sizeOf4
instance:FieldOff Tryz.prog 180 3 7:=FieldOff.of (m:=0) _ _ Tryz.underlying180 rfl rfl Tryz.sizeOf4
instance:FieldOff Tryz.prog 180 4 8:=FieldOff.of (m:=0) _ _ Tryz.underlying180 rfl rfl Tryz.sizeOf3
instance:FieldOff Tryz.prog 180 5 9:=FieldOff.of (m:=0) _ _ Tryz.underlying180 rfl rfl Tryz.sizeOf3
instance:FieldOff Tryz.prog 180 6 10:=FieldOff.of (m:=0) _ _ Tryz.underlying180 rfl rfl Tryz.sizeOf3
instance:FieldOff Tryz.prog 180 7 11:=FieldOff.of (m:=0) _ _ Tryz.underlying180 rfl rfl Tryz.sizeOf2
instance:FieldOff Tryz.prog 180 8 12:=FieldOff.of (m:=0) _ _ Tryz.underlying180 rfl rfl Tryz.sizeOf4
instance:BuildT Tryz.prog 180 (fun i=>([(0,1),(1,5),(6,1),(7,1),(8,1),(9,1),(10,1),(11,1),(12,1)]:List (Nat×Nat))[i]?) [.nilFunc,.int .i64 0,.int .i64 0,.int .i64 0,.int .i64 0,.int .i64 0,.bool false,.bool false,.int .i64 0,.int .i64 0,.int .i64 0,.int .i64 0,.bool false]:=BuildT.ofS (fun parts=>by kernel_rfl)
instance:ArrT Tryz.prog 184 6 4 1:=⟨Tryz.underlying184,Tryz.sizeOf4⟩
instance:ZeroV Tryz.prog 184 [.bool false,.bool false,.bool false,.bool false,.bool false,.bool false]:=⟨_,rfl,Tryz.zeroValue184⟩
instance:PtrT Tryz.prog 185:=⟨by kernel_rfl⟩
instance:FieldOff Tryz.prog 187 0 0:=FieldOff.of (m:=0) _ _ Tryz.underlying187 rfl rfl Tryz.sizeOf137
instance:FieldOff Tryz.prog 187 1 1:=FieldOff.of (m:=0) _ _ Tryz.underlying187 rfl rfl Tryz.sizeOf3
instance:FieldOff Tryz.prog 187 2 2:=FieldOff.of (m:=0) _ _ Tryz.underlying187 rfl rfl Tryz.sizeOf3
instance:FieldOff Tryz.prog 187 3 3:=FieldOff.of (m:=4) _ _ Tryz.underlying187 rfl rfl Tryz.sizeOf84
instance:BuildT Tryz.prog 187 (fun i=>([(0,1),(1,1),(2,1),(3,5)]:List (Nat×Nat))[i]?) [.pointer none,.int .i64 0,.int .i64 0,.int .i64 0,.int .i64 0,.int .i64 0,.int .i64 0,.int .i64 0]:=BuildT.ofS (fun parts=>by kernel_rfl)
instance:BuildT Tryz.prog 194 (fun i=>([(0,1),(1,1)]:List (Nat×Nat))[i]?) [.int .i64 0,.slice none 0 0]:=BuildT.ofS (fun parts=>by kernel_rfl)
instance:ElemT Tryz.prog 194 2 32 [.int .i64 0,.slice none 0 0]:=⟨by kernel_rfl⟩
instance:Cell1 Tryz.prog 207:=⟨Tryz.isAgg207,Tryz.sizeOf207⟩
instance:PtrT Tryz.prog 207:=⟨by kernel_rfl⟩
instance:ZeroV Tryz.prog 207 [.pointer none]:=⟨_,rfl,Tryz.zeroValue207⟩
instance:Cell1 Tryz.prog 208:=⟨Tryz.isAgg208,Tryz.sizeOf208⟩
instance:SliceT Tryz.prog 208 212 7:=⟨Tryz.underlying208,Tryz.sizeOf212⟩
instance:FieldOff Tryz.prog 210 0 0:=FieldOff.of (m:=0) _ _ Tryz.underlying210 rfl rfl Tryz.sizeOf208
instance:FieldOff Tryz.prog 210 1 1:=FieldOff.of (m:=4) _ _ Tryz.underlying210 rfl rfl Tryz.sizeOf84
instance:BuildT Tryz.prog 210 (fun i=>([(0,1),(1,5)]:List (Nat×Nat))[i]?) [.slice none 0 0,.int .i64 0,.int .i64 0,.int .i64 0,.int .i64 0,.int .i64 0]:=BuildT.ofS (fun parts=>by kernel_rfl)
instance:AggN Tryz.prog 212 7:=⟨Tryz.isAgg212,Tryz.sizeOf212⟩
instance:FieldOff Tryz.prog 212 0 0:=FieldOff.of (m:=4) _ _ Tryz.underlying212 rfl rfl Tryz.sizeOf38
instance:FieldOff Tryz.prog 212 1 5:=FieldOff.of (m:=0) _ _ Tryz.underlying212 rfl rfl Tryz.sizeOf3
instance:FieldOff Tryz.prog 212 2 6:=FieldOff.of (m:=0) _ _ Tryz.underlying212 rfl rfl Tryz.sizeOf95
instance:BuildT Tryz.prog 212 (fun i=>([(0,5),(5,1),(6,1)]:List (Nat×Nat))[i]?) [.int .i64 0,.int .i64 0,.int .i64 0,.int .i64 0,.int .i64 0,.int .i64 0,.pointer none]:=BuildT.ofS (fun parts=>by kernel_rfl)
instance:ZeroV Tryz.prog 212 [.int .i64 0,.int .i64 0,.int .i64 0,.int .i64 0,.int .i64 0,.int .i64 0,.pointer none]:=⟨_,rfl,Tryz.zeroValue212⟩
instance:ElemT Tryz.prog 212 7 56 [.int .i64 0,.int .i64 0,.int .i64 0,.int .i64 0,.int .i64 0,.int .i64 0,.pointer none]:=⟨by kernel_rfl⟩
instance:IntT Tryz.prog 216 .u32:=⟨Tryz.underlying216⟩
instance:Callable Tryz.prog 17:=⟨Tryz.call17⟩
instance:Callable Tryz.prog 18:=⟨Tryz.call18⟩
instance:Callable Tryz.prog 19:=⟨Tryz.call19⟩
instance:Callable Tryz.prog 21:=⟨Tryz.call21⟩
instance:Callable Tryz.prog 22:=⟨Tryz.call22⟩
instance:Callable Tryz.prog 23:=⟨Tryz.call23⟩
instance:Callable Tryz.prog 24:=⟨Tryz.call24⟩
instance:Callable Tryz.prog 25:=⟨Tryz.call25⟩
instance:Callable Tryz.prog 28:=⟨Tryz.call28⟩
instance:Callable Tryz.prog 30:=⟨Tryz.call30⟩
instance:Callable Tryz.prog 34:=⟨Tryz.call34⟩
instance:Callable Tryz.prog 35:=⟨Tryz.call35⟩
instance:Callable Tryz.prog 36:=⟨Tryz.call36⟩
instance:Callable Tryz.prog 37:=⟨Tryz.call37⟩
instance:Callable Tryz.prog 38:=⟨Tryz.call38⟩
instance:Callable Tryz.prog 40:=⟨Tryz.call40⟩
instance:Callable Tryz.prog 43:=⟨Tryz.call43⟩
instance:Callable Tryz.prog 44:=⟨Tryz.call44⟩
instance:Callable Tryz.prog 45:=⟨Tryz.call45⟩
instance:Callable Tryz.prog 46:=⟨Tryz.call46⟩
instance:Callable Tryz.prog 47:=⟨Tryz.call47⟩
instance:Callable Tryz.prog 48:=⟨Tryz.call48⟩
instance:Callable Tryz.prog 49:=⟨Tryz.call49⟩
instance:Callable Tryz.prog 50:=⟨Tryz.call50⟩
instance:Callable Tryz.prog 51:=⟨Tryz.call51⟩
instance:Callable Tryz.prog 52:=⟨Tryz.call52⟩
instance:Callable Tryz.prog 53:=⟨Tryz.call53⟩
instance:Callable Tryz.prog 54:=⟨Tryz.call54⟩
instance:Callable Tryz.prog 55:=⟨Tryz.call55⟩
instance:Callable Tryz.prog 56:=⟨Tryz.call56⟩
instance:Callable Tryz.prog 60:=⟨Tryz.call60⟩
instance:Callable Tryz.prog 61:=⟨Tryz.call61⟩
instance:Callable Tryz.prog 65:=⟨Tryz.call65⟩
instance:Callable Tryz.prog 66:=⟨Tryz.call66⟩
instance:Callable Tryz.prog 68:=⟨Tryz.call68⟩
instance:Callable Tryz.prog 71:=⟨Tryz.call71⟩
instance:Callable Tryz.prog 75:=⟨Tryz.call75⟩
instance:Callable Tryz.prog 76:=⟨Tryz.call76⟩
instance:Callable Tryz.prog 77:=⟨Tryz.call77⟩
instance:Callable Tryz.prog 78:=⟨Tryz.call78⟩
instance:Callable Tryz.prog 79:=⟨Tryz.call79⟩
instance:Callable Tryz.prog 80:=⟨Tryz.call80⟩
instance:Callable Tryz.prog 81:=⟨Tryz.call81⟩
instance:Callable Tryz.prog 82:=⟨Tryz.call82⟩
instance:Callable Tryz.prog 83:=⟨Tryz.call83⟩
instance:Callable Tryz.prog 84:=⟨Tryz.call84⟩
instance:Callable Tryz.prog 85:=⟨Tryz.call85⟩
instance:Callable Tryz.prog 86:=⟨Tryz.call86⟩
instance:Callable Tryz.prog 87:=⟨Tryz.call87⟩
instance:Callable Tryz.prog 88:=⟨Tryz.call88⟩
instance:Callable Tryz.prog 89:=⟨Tryz.call89⟩
instance:Callable Tryz.prog 90:=⟨Tryz.call90⟩
instance:Callable Tryz.prog 91:=⟨Tryz.call91⟩
instance:Callable Tryz.prog 92:=⟨Tryz.call92⟩
instance:Callable Tryz.prog 93:=⟨Tryz.call93⟩
instance:Callable Tryz.prog 94:=⟨Tryz.call94⟩
instance:Callable Tryz.prog 95:=⟨Tryz.call95⟩
instance:Callable Tryz.prog 96:=⟨Tryz.call96⟩
instance:Callable Tryz.prog 97:=⟨Tryz.call97⟩
instance:Callable Tryz.prog 98:=⟨Tryz.call98⟩
instance:Callable Tryz.prog 99:=⟨Tryz.call99⟩
instance:Callable Tryz.prog 100:=⟨Tryz.call100⟩
instance:Callable Tryz.prog 102:=⟨Tryz.call102⟩
instance:Callable Tryz.prog 104:=⟨Tryz.call104⟩
instance:Callable Tryz.prog 105:=⟨Tryz.call105⟩
instance:Callable Tryz.prog 106:=⟨Tryz.call106⟩
instance:Callable Tryz.prog 107:=⟨Tryz.call107⟩
instance:Callable Tryz.prog 108:=⟨Tryz.call108⟩
instance:Callable Tryz.prog 109:=⟨Tryz.call109⟩
instance:Callable Tryz.prog 110:=⟨Tryz.call110⟩
instance:Callable Tryz.prog 111:=⟨Tryz.call111⟩
instance:Callable Tryz.prog 112:=⟨Tryz.call112⟩
instance:Callable Tryz.prog 113:=⟨Tryz.call113⟩
instance:Callable Tryz.prog 114:=⟨Tryz.call114⟩
instance:Callable Tryz.prog 115:=⟨Tryz.call115⟩
instance:Callable Tryz.prog 116:=⟨Tryz.call116⟩
instance:Callable Tryz.prog 117:=⟨Tryz.call117⟩
instance:Callable Tryz.prog 118:=⟨Tryz.call118⟩
instance:Callable Tryz.prog 119:=⟨Tryz.call119⟩
instance:Callable Tryz.prog 120:=⟨Tryz.call120⟩
instance:Callable Tryz.prog 121:=⟨Tryz.call121⟩
instance:Callable Tryz.prog 122:=⟨Tryz.call122⟩
instance:Callable Tryz.prog 124:=⟨Tryz.call124⟩
instance:Callable Tryz.prog 125:=⟨Tryz.call125⟩
instance:Callable Tryz.prog 126:=⟨Tryz.call126⟩
instance:Callable Tryz.prog 127:=⟨Tryz.call127⟩
instance:Callable Tryz.prog 128:=⟨Tryz.call128⟩
instance:Callable Tryz.prog 129:=⟨Tryz.call129⟩
instance:Callable Tryz.prog 130:=⟨Tryz.call130⟩
instance:Callable Tryz.prog 131:=⟨Tryz.call131⟩
instance:Callable Tryz.prog 132:=⟨Tryz.call132⟩
instance:Callable Tryz.prog 133:=⟨Tryz.call133⟩
instance:Callable Tryz.prog 134:=⟨Tryz.call134⟩
instance:Callable Tryz.prog 138:=⟨Tryz.call138⟩
instance:Callable Tryz.prog 139:=⟨Tryz.call139⟩
instance:Callable Tryz.prog 140:=⟨Tryz.call140⟩
instance:Callable Tryz.prog 141:=⟨Tryz.call141⟩
instance:Callable Tryz.prog 142:=⟨Tryz.call142⟩
instance:Callable Tryz.prog 143:=⟨Tryz.call143⟩
instance:Callable Tryz.prog 144:=⟨Tryz.call144⟩
instance:Callable Tryz.prog 145:=⟨Tryz.call145⟩
instance:Callable Tryz.prog 146:=⟨Tryz.call146⟩
instance:Callable Tryz.prog 147:=⟨Tryz.call147⟩
instance:Callable Tryz.prog 148:=⟨Tryz.call148⟩
instance:Callable Tryz.prog 149:=⟨Tryz.call149⟩
instance:Callable Tryz.prog 150:=⟨Tryz.call150⟩
instance:Callable Tryz.prog 152:=⟨Tryz.call152⟩
instance:Callable Tryz.prog 153:=⟨Tryz.call153⟩
instance:Callable Tryz.prog 154:=⟨Tryz.call154⟩
instance:Callable Tryz.prog 155:=⟨Tryz.call155⟩
instance:Callable Tryz.prog 156:=⟨Tryz.call156⟩
instance:Callable Tryz.prog 158:=⟨Tryz.call158⟩
instance:Callable Tryz.prog 159:=⟨Tryz.call159⟩
instance:Callable Tryz.prog 160:=⟨Tryz.call160⟩
instance:Callable Tryz.prog 161:=⟨Tryz.call161⟩
instance:Callable Tryz.prog 162:=⟨Tryz.call162⟩
instance:Callable Tryz.prog 163:=⟨Tryz.call163⟩
instance:Callable Tryz.prog 181:=⟨Tryz.call181⟩
instance:Callable Tryz.prog 182:=⟨Tryz.call182⟩
instance:Callable Tryz.prog 183:=⟨Tryz.call183⟩
instance:Callable Tryz.prog 184:=⟨Tryz.call184⟩
instance:Callable Tryz.prog 185:=⟨Tryz.call185⟩
instance:Callable Tryz.prog 186:=⟨Tryz.call186⟩
instance:Mixed Tryz.prog:=⟨by kernel_rfl⟩
end Go.Proofs.YtjoicjgfgkpdjaaGreat
namespace Go.Tup
structure T5 where
 c0:Int
 c1:Int
 c2:Int
 c3:Int
 c4:Int
 deriving DecidableEq
def T5.toList (t:T5):List Int:=[t.c0,t.c1,t.c2,t.c3,t.c4]
def T5.col (t:T5):Nat→Int
 |0=>t.c0
 |1=>t.c1
 |2=>t.c2
 |3=>t.c3
 |4=>t.c4
 |_=>0
def fGo:List Int→Bool→(Nat→Bool)→Bool
 |[],_,_=>true
 |k::ks,over,s=>
  if(over=true∧k≠0)∨k< -5∨5<k then false
  else if k=0 then fGo ks true s
  else if s k.natAbs=true then false
  else fGo ks over (fun j=>if j=k.natAbs then true else s j)
def formed (o:T5):Bool:=fGo o.toList false (fun _=>false)
theorem fGo_bounds:∀(l:List Int) (over:Bool) (s:Nat→Bool),fGo l over s=true→∀k∈l,-5≤k∧k≤5
 |[],_,_,_,k,hk=>by cases hk
 |x::l,over,s,h,k,hk=>by
  unfold fGo at h
  split at h
  ·cases h
  ·rename_i hb
   have hx: -5≤x∧x≤5:=by omega
   rcases List.mem_cons.1 hk with rfl|hk
   ·exact hx
   ·split at h
    ·exact fGo_bounds l _ _ h k hk
    ·split at h
     ·cases h
     ·exact fGo_bounds l _ _ h k hk
theorem formed_bounds {o:T5} (h:formed o=true):∀k∈o.toList,-5≤k∧k≤5:=fGo_bounds _ _ _ h
def cmp3 (x y:Int):Int:=if x<y then-1 else if y<x then 1 else 0
def cmpL:List Int→T5→T5→Int
 |[],_,_=>0
 |k::ks,a,b=>
  if k=0 then 0
  else
   let c:=if k<0 then cmp3 (b.col (k.natAbs-1)) (a.col (k.natAbs-1)) else cmp3 (a.col (k.natAbs-1)) (b.col (k.natAbs-1))
   if c≠0 then c else cmpL ks a b
def cmpT (o a b:T5):Int:=if formed o=true then cmpL o.toList a b else 0
theorem cmpSwap (x y:Int):cmp3 y x= -cmp3 x y:=by
 unfold cmp3
 by_cases h1:x<y
 ·rw[if_pos h1,if_neg (by omega),if_pos h1];rfl
 ·by_cases h2:y<x
  ·simp only[if_pos h2,if_neg h1]
  ·simp only[if_neg h2,if_neg h1,Int.neg_zero]
theorem cmpL_swap:∀(l:List Int) (a b:T5),cmpL l a b= -cmpL l b a
 |[],_,_=>rfl
 |k::l,a,b=>by
  have ih:=cmpL_swap l a b
  simp only[cmpL]
  by_cases h0:k=0
  ·simp[h0]
  ·simp only[h0,if_false]
   by_cases hn:k<0
   ·simp only[hn,if_true]
    rw[cmpSwap (a.col (k.natAbs-1))]
    split<;>split<;>omega
   ·simp only[hn,if_false]
    rw[cmpSwap (b.col (k.natAbs-1))]
    split<;>split<;>omega
theorem cmpT_swap (o a b:T5):cmpT o a b= -cmpT o b a:=by
 unfold cmpT
 split
 ·exact cmpL_swap _ a b
 ·rfl
theorem cmpZero {x y:Int}:cmp3 x y=0↔x=y:=by
 unfold cmp3
 split
 ·omega
 ·split<;>omega
theorem cmpPos {x y:Int}:0<cmp3 x y↔y<x:=by
 unfold cmp3
 split
 ·omega
 ·split<;>omega
theorem cmpL_trans:∀(l:List Int) (a b c:T5),cmpL l a b≤0→cmpL l b c≤0→cmpL l a c≤0
 |[],_,_,_,_,_=>by simp[cmpL]
 |k::l,a,b,c,h1,h2=>by
  simp only[cmpL] at h1 h2⊢
  by_cases h0:k=0
  ·simp[h0]
  ·simp only[h0,if_false] at h1 h2⊢
   have ih:=cmpL_trans l a b c
   by_cases hn:k<0
   ·simp only[hn,if_true] at h1 h2⊢
    generalize a.col (k.natAbs-1)=x at*
    generalize b.col (k.natAbs-1)=y at*
    generalize c.col (k.natAbs-1)=z at*
    have e1:= @cmpZero y x
    have e2:= @cmpZero z y
    have e3:= @cmpZero z x
    have p1:= @cmpPos y x
    have p2:= @cmpPos z y
    have p3:= @cmpPos z x
    by_cases q1:cmp3 y x=0<;>by_cases q2:cmp3 z y=0<;>by_cases q3:cmp3 z x=0<;>simp only[q1,q2,q3,ne_eq,not_true_eq_false,not_false_eq_true,if_true,if_false] at h1 h2⊢<;>first|exact ih h1 h2|omega
   ·simp only[hn,if_false] at h1 h2⊢
    generalize a.col (k.natAbs-1)=x at*
    generalize b.col (k.natAbs-1)=y at*
    generalize c.col (k.natAbs-1)=z at*
    have e1:= @cmpZero x y
    have e2:= @cmpZero y z
    have e3:= @cmpZero x z
    have p1:= @cmpPos x y
    have p2:= @cmpPos y z
    have p3:= @cmpPos x z
    by_cases q1:cmp3 x y=0<;>by_cases q2:cmp3 y z=0<;>by_cases q3:cmp3 x z=0<;>simp only[q1,q2,q3,ne_eq,not_true_eq_false,not_false_eq_true,if_true,if_false] at h1 h2⊢<;>first|exact ih h1 h2|omega
theorem cmpT_trans (o a b c:T5) (h1:cmpT o a b≤0) (h2:cmpT o b c≤0):cmpT o a c≤0:=by
 unfold cmpT at h1 h2⊢
 split
 ·rename_i hf
  rw[if_pos hf] at h1 h2
  exact cmpL_trans _ a b c h1 h2
 ·omega
end Go.Tup
namespace Go.Proofs.YtjoicjgfgkpdjaaGreat
open Go.SL Go.Tup
theorem Formed_ct (o0 o1 o2 o3 o4:Int):CtQ Tryz.prog 104 [.agg #[.int .i64 o0,.int .i64 o1,.int .i64 o2,.int .i64 o3,.int .i64 o4]] [] (.bool (formed ⟨o0,o1,o2,o3,o4⟩)):=by
 refine Ct.intro Tryz.func104 rfl Tryz.ntmps104 (nle rfl) fun w0=> ?_;dsimp only[argSlots,Nat.reduceAdd]
 repeat(refine st ?_;intros)
 rename_i b1 b2
 refine G.loop (X:=Nat×Bool×(Nat→Bool)) (fun x=>x.1≤5∧formed ⟨o0,o1,o2,o3,o4⟩=fGo ([o0,o1,o2,o3,o4].drop x.1) x.2.1 x.2.2)
  (fun x=>[(8,.int .i64 (x.1:Int)),(7,.agg #[.int .i64 o0,.int .i64 o1,.int .i64 o2,.int .i64 o3,.int .i64 o4]),(4,.bool x.2.1),(3,.pointer (some ⟨b2,0,none⟩))])
  (fun x=>[[(b2,row [.bool (x.2.2 0),.bool (x.2.2 1),.bool (x.2.2 2),.bool (x.2.2 3),.bool (x.2.2 4),.bool (x.2.2 5)] 184)]])
  (fun x=>5-x.1) (0,false,fun _=>false) ⟨by decide,rfl⟩ (body:= ?_)
 rintro⟨i,over,s⟩ ⟨hi,hf⟩
 dsimp only at hi hf⊢
 by_cases h5:i<5
 ·obtain⟨k,hk,hd⟩:∃k,([.int .i64 o0,.int .i64 o1,.int .i64 o2,.int .i64 o3,.int .i64 o4]:List Value)[i]? =some (.int .i64 k)∧
    [o0,o1,o2,o3,o4].drop i=k::[o0,o1,o2,o3,o4].drop (i+1):=by
   match i with
   |0=>exact⟨o0,rfl,rfl⟩
   |1=>exact⟨o1,rfl,rfl⟩
   |2=>exact⟨o2,rfl,rfl⟩
   |3=>exact⟨o3,rfl,rfl⟩
   |4=>exact⟨o4,rfl,rfl⟩
  rw[hd,fGo] at hf
  have hm1:∀k:Int,(max k (-k)).toNat=k.natAbs:=by intro k;omega
  have hm2:=hm1 k
  have hc: -5≤k→k≤5→([.bool (s 0),.bool (s 1),.bool (s 2),.bool (s 3),.bool (s 4),.bool (s 5)]:List Value)[k.natAbs]? =some (.bool (s k.natAbs)):=by
   intro h1 h2
   obtain h|h|h|h|h|h:k.natAbs=0∨k.natAbs=1∨k.natAbs=2∨k.natAbs=3∨k.natAbs=4∨k.natAbs=5:=by omega
   all_goals rw[h];rfl
  have hset: -5≤k→k≤5→([.bool (s 0),.bool (s 1),.bool (s 2),.bool (s 3),.bool (s 4),.bool (s 5)]:List Value).set k.natAbs (.bool true)=
    [.bool (if 0=k.natAbs then true else s 0),.bool (if 1=k.natAbs then true else s 1),.bool (if 2=k.natAbs then true else s 2),
     .bool (if 3=k.natAbs then true else s 3),.bool (if 4=k.natAbs then true else s 4),.bool (if 5=k.natAbs then true else s 5)]:=by
   intro h1 h2
   obtain h|h|h|h|h|h:k.natAbs=0∨k.natAbs=1∨k.natAbs=2∨k.natAbs=3∨k.natAbs=4∨k.natAbs=5:=by omega
   all_goals rw[h];rfl
  by_cases hb:k< -5∨5<k
  ·rw[if_pos (Or.inr hb)] at hf
   cases over
   all_goals repeat' (first|(refine st ?_;intros)|(refine sp ?_ ?_<;>intros)|fail)
   all_goals(refine Dn.post (Hr:=[]) Tryz.results104 (hR:= ?_);exact⟨congrArg Value.bool hf.symm,rfl⟩)
  ·have hc':=hc (by omega) (by omega)
   have hset':=hset (by omega) (by omega)
   have hle:k.natAbs<6:=by omega
   by_cases h0:k=0
   ·rw[if_neg (by simp[h0]),if_pos h0] at hf
    cases over
    all_goals repeat' (first|(refine st ?_;intros)|(refine sp ?_ ?_<;>intros)|fail)
    all_goals exact Dn.round (i+1,true,s) ⟨by omega,hf⟩ (by dsimp only;omega)
   ·cases over
    ·rw[if_neg (by simp;omega),if_neg h0] at hf
     by_cases hs:s k.natAbs=true
     ·rw[if_pos hs] at hf
      rw[hs] at hc'
      repeat' (first|(refine st ?_;intros)|(refine sp ?_ ?_<;>intros)|fail)
      (refine Dn.post (Hr:=[]) Tryz.results104 (hR:= ?_);exact⟨congrArg Value.bool hf.symm,rfl⟩)
     ·rw[if_neg hs] at hf
      simp only[Bool.not_eq_true] at hs
      rw[hs] at hc'
      repeat' (first|(refine st ?_;intros)|(refine sp ?_ ?_<;>intros)|fail)
      exact Dn.round (i+1,false,fun j=>if j=k.natAbs then true else s j) ⟨by omega,hf⟩ (by dsimp only;omega)
    ·rw[if_pos (by simp[h0])] at hf
     repeat' (first|(refine st ?_;intros)|(refine sp ?_ ?_<;>intros)|fail)
     (refine Dn.post (Hr:=[]) Tryz.results104 (hR:= ?_);exact⟨congrArg Value.bool hf.symm,rfl⟩)
 ·repeat' (first|(refine st ?_;intros)|(refine sp ?_ ?_<;>intros)|fail)
  obtain rfl:i=5:=by omega
  (refine Dn.post (Hr:=[]) Tryz.results104 (hR:= ?_);exact⟨congrArg Value.bool (hf.trans rfl).symm,rfl⟩)
def tv (t:T5):Value:= .agg #[.int .i64 t.c0,.int .i64 t.c1,.int .i64 t.c2,.int .i64 t.c3,.int .i64 t.c4]
theorem isNaN_ct (x:Int):CtQ Tryz.prog 162 [.int .i64 x] [] (.bool false):=by
 refine Ct.intro Tryz.func162 rfl Tryz.ntmps162 (nle rfl) fun w0=> ?_;dsimp only[argSlots,Nat.reduceAdd]
 repeat(refine st ?_;intros)
 (refine Dn.post (Hr:=[]) Tryz.results162 (hR:= ?_);exact⟨by simp[packV,dec_false],rfl⟩)
theorem cmp_ct (x y:Int):CtQ Tryz.prog 160 [.int .i64 x,.int .i64 y] [] (.int .i64 (cmp3 x y)):=by
 refine Ct.intro Tryz.func160 rfl Tryz.ntmps160 (nle rfl) fun w0=> ?_;dsimp only[argSlots,Nat.reduceAdd]
 repeat' (first|(refine st ?_;intros)|(refine cq isNaN_ct ?_)|(refine sp ?_ ?_<;>intros)|fail)
 all_goals(refine Dn.post (Hr:=[]) Tryz.results160 (hR:= ?_);refine⟨?_,rfl⟩)
 all_goals simp only[packV,cmp3]
 all_goals first|rw[if_pos (by assumption)]|rw[if_neg (by assumption),if_pos (by assumption)]|rw[if_neg (by assumption),if_neg (by assumption)]
theorem col_get (a0 a1 a2 a3 a4 k:Int) (h1:1≤k) (h2:k≤5):
  ([.int .i64 a0,.int .i64 a1,.int .i64 a2,.int .i64 a3,.int .i64 a4]:List Value)[(k-1).toNat]? =some (.int .i64 (T5.col ⟨a0,a1,a2,a3,a4⟩ (k.natAbs-1))):=by
 obtain rfl|rfl|rfl|rfl|rfl:k=1∨k=2∨k=3∨k=4∨k=5:=by omega
 all_goals rfl
theorem five_get (o0 o1 o2 o3 o4:Int) (i:Nat) (h:i<5):∃k,([.int .i64 o0,.int .i64 o1,.int .i64 o2,.int .i64 o3,.int .i64 o4]:List Value)[i]? =some (.int .i64 k)∧
  [o0,o1,o2,o3,o4].drop i=k::[o0,o1,o2,o3,o4].drop (i+1)∧k∈[o0,o1,o2,o3,o4]:=by
 match i with
 |0=>exact⟨o0,rfl,rfl,by simp⟩
 |1=>exact⟨o1,rfl,rfl,by simp⟩
 |2=>exact⟨o2,rfl,rfl,by simp⟩
 |3=>exact⟨o3,rfl,rfl,by simp⟩
 |4=>exact⟨o4,rfl,rfl,by simp⟩
theorem Compare_ct (a0 a1 a2 a3 a4 c0 c1 c2 c3 c4 o0 o1 o2 o3 o4:Int):
  CtQ Tryz.prog 154 [.agg #[.int .i64 a0,.int .i64 a1,.int .i64 a2,.int .i64 a3,.int .i64 a4],.agg #[.int .i64 c0,.int .i64 c1,.int .i64 c2,.int .i64 c3,.int .i64 c4],
   .agg #[.int .i64 o0,.int .i64 o1,.int .i64 o2,.int .i64 o3,.int .i64 o4]] [] (.int .i64 (cmpT ⟨o0,o1,o2,o3,o4⟩ ⟨a0,a1,a2,a3,a4⟩ ⟨c0,c1,c2,c3,c4⟩)):=by
 refine Ct.intro Tryz.func154 rfl Tryz.ntmps154 (nle rfl) fun w0=> ?_;dsimp only[argSlots,Nat.reduceAdd]
 by_cases hF:formed ⟨o0,o1,o2,o3,o4⟩=true
 ·have hfb:=formed_bounds hF
  simp only[T5.toList] at hfb
  simp only[cmpT,hF,if_true,T5.toList]
  have hF':(!formed ⟨o0,o1,o2,o3,o4⟩)=false:=by rw[hF];rfl
  generalize hres:cmpL [o0,o1,o2,o3,o4] ⟨a0,a1,a2,a3,a4⟩ ⟨c0,c1,c2,c3,c4⟩=res
  repeat(first|(refine st ?_;intros)|refine G.draw (id:=9) [(8,.quiet)] (h:= ?_)|refine G.draw (id:=13) [(8,.quiet)] (h:= ?_)|(refine cq Formed_ct ?_)|(refine cq cmp_ct ?_))
  rename_i b1 b2 b3
  refine G.loop (X:=Nat) (fun i=>i≤5∧res=cmpL ([o0,o1,o2,o3,o4].drop i) ⟨a0,a1,a2,a3,a4⟩ ⟨c0,c1,c2,c3,c4⟩)
   (fun i=>[(15,.int .i64 (i:Int)),(14,.agg #[.int .i64 o0,.int .i64 o1,.int .i64 o2,.int .i64 o3,.int .i64 o4]),(3,.pointer (some ⟨b1,0,none⟩)),(4,.pointer (some ⟨b2,0,none⟩))])
   (fun _=>[[(b1,row [.int .i64 a0,.int .i64 a1,.int .i64 a2,.int .i64 a3,.int .i64 a4] 38)],[(b2,row [.int .i64 c0,.int .i64 c1,.int .i64 c2,.int .i64 c3,.int .i64 c4] 38)]])
   (fun i=>5-i) 0 ⟨by decide,hres.symm⟩ (body:= ?_)
  rintro i ⟨hi,hf⟩
  by_cases h5:i<5
  ·obtain⟨k,hk,hd,hm⟩:=five_get o0 o1 o2 o3 o4 i h5
   obtain⟨hk1,hk2⟩:=hfb k hm
   rw[hd,cmpL] at hf
   by_cases h0:k=0
   ·rw[if_pos h0] at hf
    repeat(first|(refine st ?_;intros)|refine G.draw (id:=9) [(8,.quiet)] (h:= ?_)|refine G.draw (id:=13) [(8,.quiet)] (h:= ?_)|(refine cq Formed_ct ?_)|(refine cq cmp_ct ?_))
    (refine Dn.post (Hr:=[]) Tryz.results154 (hR:= ?_);exact⟨congrArg (Value.int .i64) hf.symm,rfl⟩)
   ·rw[if_neg h0] at hf
    by_cases hn:k<0
    ·have g1:=col_get a0 a1 a2 a3 a4 (-k) (by omega) (by omega)
     have g2:=col_get c0 c1 c2 c3 c4 (-k) (by omega) (by omega)
     rw[Int.natAbs_neg] at g1 g2
     simp only[hn,if_true] at hf
     by_cases hz:cmp3 (T5.col ⟨c0,c1,c2,c3,c4⟩ (k.natAbs-1)) (T5.col ⟨a0,a1,a2,a3,a4⟩ (k.natAbs-1))=0
     ·rw[if_neg (by simpa using hz)] at hf
      repeat(first|(refine st ?_;intros)|refine G.draw (id:=9) [(8,.quiet)] (h:= ?_)|refine G.draw (id:=13) [(8,.quiet)] (h:= ?_)|(refine cq Formed_ct ?_)|(refine cq cmp_ct ?_))
      exact Dn.round (i+1) ⟨by omega,hf⟩ (by omega)
     ·rw[if_pos hz] at hf
      repeat(first|(refine st ?_;intros)|refine G.draw (id:=9) [(8,.quiet)] (h:= ?_)|refine G.draw (id:=13) [(8,.quiet)] (h:= ?_)|(refine cq Formed_ct ?_)|(refine cq cmp_ct ?_))
      (refine Dn.post (Hr:=[]) Tryz.results154 (hR:= ?_);exact⟨congrArg (Value.int .i64) hf.symm,rfl⟩)
    ·have g1:=col_get a0 a1 a2 a3 a4 k (by omega) (by omega)
     have g2:=col_get c0 c1 c2 c3 c4 k (by omega) (by omega)
     simp only[hn,if_false] at hf
     by_cases hz:cmp3 (T5.col ⟨a0,a1,a2,a3,a4⟩ (k.natAbs-1)) (T5.col ⟨c0,c1,c2,c3,c4⟩ (k.natAbs-1))=0
     ·rw[if_neg (by simpa using hz)] at hf
      repeat(first|(refine st ?_;intros)|refine G.draw (id:=9) [(8,.quiet)] (h:= ?_)|refine G.draw (id:=13) [(8,.quiet)] (h:= ?_)|(refine cq Formed_ct ?_)|(refine cq cmp_ct ?_))
      exact Dn.round (i+1) ⟨by omega,hf⟩ (by omega)
     ·rw[if_pos hz] at hf
      repeat(first|(refine st ?_;intros)|refine G.draw (id:=9) [(8,.quiet)] (h:= ?_)|refine G.draw (id:=13) [(8,.quiet)] (h:= ?_)|(refine cq Formed_ct ?_)|(refine cq cmp_ct ?_))
      (refine Dn.post (Hr:=[]) Tryz.results154 (hR:= ?_);exact⟨congrArg (Value.int .i64) hf.symm,rfl⟩)
  ·repeat(first|(refine st ?_;intros)|refine G.draw (id:=9) [(8,.quiet)] (h:= ?_)|refine G.draw (id:=13) [(8,.quiet)] (h:= ?_)|(refine cq Formed_ct ?_)|(refine cq cmp_ct ?_))
   obtain rfl:i=5:=by omega
   (refine Dn.post (Hr:=[]) Tryz.results154 (hR:= ?_);exact⟨congrArg (Value.int .i64) hf.symm,rfl⟩)
 ·simp only[Bool.not_eq_true] at hF
  simp only[cmpT,hF]
  have hF':(!formed ⟨o0,o1,o2,o3,o4⟩)=true:=by rw[hF];rfl
  repeat(first|(refine st ?_;intros)|refine G.draw (id:=9) [(8,.quiet)] (h:= ?_)|refine G.draw (id:=13) [(8,.quiet)] (h:= ?_)|(refine cq Formed_ct ?_)|(refine cq cmp_ct ?_))
  (refine Dn.post (Hr:=[]) Tryz.results154 (hR:= ?_);exact⟨rfl,rfl⟩)
end Go.Proofs.YtjoicjgfgkpdjaaGreat
namespace Go.Tup
open Go.SL
def tcells (t:T5):List Value:=[.int .i64 t.c0,.int .i64 t.c1,.int .i64 t.c2,.int .i64 t.c3,.int .i64 t.c4]
def flat:List T5→List Value
 |[]=>[]
 |t::ts=>tcells t++flat ts
theorem flat_length:∀ts,(flat ts).length=ts.length*5
 |[]=>rfl
 |t::ts=>by simp[flat,flat_length ts,tcells];omega
theorem flat_append:∀(ts us:List T5),flat (ts++us)=flat ts++flat us
 |[],us=>rfl
 |t::ts,us=>by simp[flat,flat_append ts us]
theorem flat_drop:∀(ts:List T5) (i:Nat),(flat ts).drop (i*5)=flat (ts.drop i)
 |ts,0=>by simp
 |[],i+1=>by simp[flat]
 |t::ts,i+1=>by
  have:=flat_drop ts i
  rw[flat,List.drop_append,List.drop_eq_nil_of_le (by simp[tcells];omega),List.nil_append,List.drop_succ_cons,←this]
  congr 1
  simp[tcells];omega
def RV (p:Option Addr) (n:Nat) (ts:List T5) (c:Chunk):Prop:=
 ts.length=n∧((n=0∧c=[])∨∃b off cs T fz,p=some ⟨b,off,none⟩∧c=[(b,rowf cs T fz)]∧(cs.drop off).take (n*5)=flat ts)
theorem RV.pos {p:Option Addr} {n:Nat} {ts:List T5} {c:Chunk} (h:RV p n ts c) (hn:0<n):∃b off cs T fz,p=some ⟨b,off,none⟩∧c=[(b,rowf cs T fz)]∧
  ∀i,i<n→(cs.drop (off+i*5)).take 5=tcells (ts.getD i ⟨0,0,0,0,0⟩):=by
 obtain⟨hl,⟨h0,_⟩|⟨b,off,cs,T,fz,rfl,rfl,h⟩⟩:=h
 ·omega
 ·refine⟨b,off,cs,T,fz,rfl,rfl,fun i hi=> ?_⟩
  have h2:=congrArg (fun l=>(l.drop (i*5)).take 5) h
  simp only[flat_drop] at h2
  rw[List.drop_take,List.drop_drop,List.take_take] at h2
  rw[show min 5 (n*5-i*5)=5 by omega] at h2
  rw[h2]
  have hi':i<ts.length:=by omega
  rw[List.drop_eq_getElem_cons hi',flat,List.take_left' (by simp[tcells])]
  congr 1
  simp[List.getD_eq_getElem?_getD,hi']
theorem RV.vec {E:Nat} {p:Option Addr} {n cap:Nat} {ts:List T5} {c:Chunk} (h:Vec E 5 p n cap (flat ts) c):RV p n ts c:=by
 have hl:ts.length=n:=by have:=h.1;rw[flat_length] at this;omega
 rcases h.2 with⟨_,h0,_,hc⟩|⟨b,rest,hp,hc,_,_,_⟩
 ·exact⟨hl,.inl ⟨h0,hc⟩⟩
 ·refine⟨hl,.inr ⟨b,0,flat ts++rest,E,(0,0),hp,hc,?_⟩⟩
  rw[List.drop_zero,←h.1,List.take_left]
def at5 (ts:List T5) (i:Nat):T5:=ts.getD i ⟨0,0,0,0,0⟩
end Go.Tup
namespace Go.Proofs.YtjoicjgfgkpdjaaGreat
open Go.SL
def wcells (ws:List Int):List Value:=ws.map (Value.int .u64)
@[simp] theorem wcells_length (ws:List Int):(wcells ws).length=ws.length:=by simp[wcells]
theorem wcells_all (ws:List Int):(wcells ws).all Value.oneCell'=true:=by
 induction ws with
 |nil=>rfl
 |cons w ws ih=>simpa[wcells,Value.oneCell'] using ih
theorem CloneW_ct (b off n cap:Nat) (cs:List Value) (E:Nat) (fz:Nat×Nat) (ws:List Int) (hn:0<n) (hm:n≤1000000) (hws:(cs.drop off).take n=wcells ws) (hl:ws.length=n):
  Ct Tryz.prog 131 [.slice (some ⟨b,off,none⟩) n cap] [[(b,rowf cs E fz)]] fun v H'=>
   ∃p cap' c',v= .slice p n cap'∧Vec 125 1 p n cap' (wcells ws) c'∧H'=[c',[(b,rowf cs E fz)]]:=by
 have hws1:(cs.drop off).take (n*1)=wcells ws:=by rw[Nat.mul_one];exact hws
 have hlen:(wcells ws).length=n*1:=by rw[wcells_length,hl,Nat.mul_one]
 have hall:=wcells_all ws
 refine Ct.intro Tryz.func131 rfl Tryz.ntmps131 (nle rfl) fun w0=> ?_;dsimp only[argSlots,Nat.reduceAdd]
 repeat(refine st ?_;intros)
 rename_i b0
 have hV:Vec 125 1 (some ⟨b0,0,none⟩) 0 0 [] [(b0,row [] 125)]:=⟨by simp,.inr ⟨b0,[],rfl,rfl,by simp,Nat.le_refl _,by decide⟩⟩
 apply R.append
 ·exact rfl
 ·exact rfl
 ·exact hV
 ·repeat(first|exact Take.here|apply Take.there|exact Take.nil)
 ·repeat(first|exact Has.here|apply Has.there)
 ·exact hws1
 ·exact hlen
 ·exact hall
 ·exact rfl
 ·exact hn
 ·simp only[maxLen];omega
 ·omega
 ·exact rfl
 ·exact nle rfl
 intro p' cap' c' hV'
 have hV2:Vec 125 1 p' n cap' (wcells ws) c':=by simpa using hV'
 repeat(refine st ?_;intros)
 (refine Dn.post (Hr:=[c',[(b,rowf cs E fz)]]) Tryz.results131 (hR:= ?_);exact⟨p',cap',c',by show Value.slice p' (0+n) cap'=_;rw[Nat.zero_add],hV2,rfl⟩)
def it {α:Type} (f:α→α):Nat→α→α
 |0,s=>s
 |j+1,s=>f (it f j s)
def crcBit (u:Int):Int:=bits2 .xor .u32 (u.fdiv (2^min (Int.toNat 1) IntKind.u32.bits)) (bits2 .and .u32 3988292384 (IntKind.u32.wrap (-bits2 .and .u32 u 1)))
def crcByte (p:Int×Int):Int×Int:=(it crcBit 8 (bits2 .xor .u32 p.1 (IntKind.u32.wrap (bits2 .and .u64 p.2 255))),p.2.fdiv (2^min (Int.toNat 8) IntKind.u64.bits))
def crcN (s x:Int):Int:=bitsNot .u32 (it crcByte 8 (bitsNot .u32 s,x)).1
theorem Next_ct (s x:Int):CtQ Tryz.prog 149 [.int .u32 s,.int .u64 x] [] (.int .u32 (crcN s x)):=by
 refine Ct.intro Tryz.func149 rfl Tryz.ntmps149 (nle rfl) fun w0=> ?_;dsimp only[argSlots,Nat.reduceAdd]
 repeat(refine st ?_;intros)
 refine G.loop (X:=Nat) (fun i=>i≤8) (fun i=>[(8,.int .i64 (i:Int)),(5,.int .u32 (it crcByte i (bitsNot .u32 s,x)).1),(1,.int .u64 (it crcByte i (bitsNot .u32 s,x)).2)]) (fun _=>[]) (fun i=>8-i) 0 (by decide) (body:= ?_)
 intro i hi
 generalize hp:it crcByte i (bitsNot .u32 s,x)=p
 obtain⟨t,y⟩:=p
 dsimp only
 by_cases h8:i<8
 ·repeat(refine st ?_;intros)
  refine G.loop (X:=Nat) (fun j=>j≤8) (fun j=>[(17,.int .i64 (j:Int)),(8,.int .i64 (i:Int)),(1,.int .u64 (y.fdiv (2^min (Int.toNat 8) IntKind.u64.bits))),(5,.int .u32 (it crcBit j (bits2 .xor .u32 t (IntKind.u32.wrap (bits2 .and .u64 y 255)))))]) (fun _=>[]) (fun j=>8-j) 0 (by decide) (body:= ?_)
  intro j hj
  generalize hu:it crcBit j (bits2 .xor .u32 t (IntKind.u32.wrap (bits2 .and .u64 y 255)))=u
  by_cases h9:j<8
  ·repeat(refine st ?_;intros)
   refine Dn.round (j+1) (by omega) (by omega) ?_ (by repeat(first|exact Split.nil|(apply Split.cons;·(repeat(first|exact Take.here|apply Take.there|exact Take.nil)))))
   refine⟨rfl,rfl,rfl,?_,trivial⟩
   simp only[it,hu]
   rfl
  ·obtain rfl:j=8:=by omega
   repeat(refine st ?_;intros)
   refine Dn.round (i+1) (by omega) (by omega) ?_ (by repeat(first|exact Split.nil|(apply Split.cons;·(repeat(first|exact Take.here|apply Take.there|exact Take.nil)))))
   have e:it crcByte (i+1) (bitsNot .u32 s,x)=(u,y.fdiv (2^min (Int.toNat 8) IntKind.u64.bits)):=by
    show crcByte (it crcByte i (bitsNot .u32 s,x))=_
    rw[hp,←hu];rfl
   rw[e]
   exact⟨rfl,rfl,rfl,trivial⟩
 ·obtain rfl:i=8:=by omega
  have e:bitsNot .u32 t=crcN s x:=by unfold crcN;rw[hp]
  repeat(refine st ?_;intros)
  (refine Dn.post (Hr:=[]) Tryz.results149 (hR:= ?_);exact⟨by rw[←e];rfl,rfl⟩)
def crcSum (ws:List Int):Int:=ws.foldl crcN 0
theorem words_get {cs:List Value} {off n:Nat} {ws:List Int} (h:(cs.drop off).take n=wcells ws) (hl:ws.length=n) {i:Nat} (hi:i<n):cs[off+i]? =some (.int .u64 (ws.getD i 0)):=by
 have h2:=congrArg (·[i]?) h
 simp only[List.getElem?_take,hi,if_true,List.getElem?_drop] at h2
 rw[h2]
 have hi':i<ws.length:=by omega
 simp[wcells,List.getD_eq_getElem?_getD,hi']
theorem Sum_ct (b off n cap:Nat) (cs:List Value) (E:Nat) (fz:Nat×Nat) (ws:List Int) (hm:n≤1000000) (hws:(cs.drop off).take n=wcells ws) (hl:ws.length=n):
  CtQ Tryz.prog 150 [.slice (some ⟨b,off,none⟩) n cap] [[(b,rowf cs E fz)]] (.int .u32 (crcSum ws)):=by
 refine Ct.intro Tryz.func150 rfl Tryz.ntmps150 (nle rfl) fun w0=> ?_;dsimp only[argSlots,Nat.reduceAdd]
 repeat(first|(refine st ?_;intros)|(refine cq Next_ct ?_))
 refine G.loop (X:=Nat) (fun i=>i≤n) (fun i=>[(8,.int .i64 (i:Int)),(7,.int .i64 (n:Int)),(6,.slice (some ⟨b,off,none⟩) n cap),(3,.int .u32 ((ws.take i).foldl crcN 0))]) (fun _=>[[(b,rowf cs E fz)]]) (fun i=>n-i) 0 (by omega) (body:= ?_)
 intro i hi
 by_cases h9:i<n
 ·have hg:=words_get hws hl h9
  have e:(ws.take (i+1)).foldl crcN 0=crcN ((ws.take i).foldl crcN 0) (ws.getD i 0):=by
   rw[List.take_add_one,List.foldl_append]
   have hi':i<ws.length:=by omega
   simp[List.getD_eq_getElem?_getD,hi']
  repeat(first|(refine st ?_;intros)|(refine cq Next_ct ?_))
  refine Dn.round (i+1) (by omega) (by omega) ?_ (by repeat(first|exact Split.nil|(apply Split.cons;·(repeat(first|exact Take.here|apply Take.there|exact Take.nil)))))
  rw[e]
  exact⟨rfl,rfl,rfl,rfl,trivial⟩
 ·obtain rfl:i=n:=by omega
  have e:(ws.take i).foldl crcN 0=crcSum ws:=by unfold crcSum;rw[List.take_of_length_le (by omega)]
  rw[e]
  repeat(first|(refine st ?_;intros)|(refine cq Next_ct ?_))
  (refine Dn.post (Hr:=[[(b,rowf cs E fz)]]) Tryz.results150 (hR:= ?_);exact⟨rfl,rfl⟩)
theorem right_ct (size address:Int) (h:8≤size∧size≤256) (ha:0≤address):CtQ Tryz.prog 127 [.int .i64 size,.int .i64 address] [] (.bool true):=by
 obtain⟨h1,h2⟩:=h
 refine Ct.intro Tryz.func127 rfl Tryz.ntmps127 (nle rfl) fun w0=> ?_;dsimp only[argSlots,Nat.reduceAdd]
 repeat(refine st ?_;intros)
 (refine Dn.post (Hr:=[]) Tryz.results127 (hR:= ?_);exact⟨by first|rfl|(rw[dec_true (by omega)];rfl),rfl⟩)
def lastW (ws:List Int) (n address:Int):Int:=
 bits2 .or .u64 (IntKind.u64.wrap ((n+1)*2^min (Int.toNat 32) IntKind.u64.bits)) (IntKind.u64.wrap (crcN (crcN (crcSum ws) (n+1)) address))
theorem last_ct (b n m cap:Nat) (address:Int) (cs:List Value) (E:Nat) (fz:Nat×Nat) (ws:List Int) (hm:m≤256) (hm1:1≤m) (hcap:m≤cap) (hn:n≤256) (ha:0≤address∧address≤1000000000) (hws:(cs.drop 0).take (m-1)=wcells ws) (hl:ws.length=m-1):
  CtQ Tryz.prog 128 [.slice (some ⟨b,0,none⟩) m cap,.int .i64 (n:Int),.int .i64 address] [[(b,rowf cs E fz)]] (.int .u64 (lastW ws n address)):=by
 have hS:=fun cap=>Sum_ct b 0 (m-1) cap cs E fz ws (by omega) hws hl
 have e1:((m:Int)-1).toNat=m-1:=by omega
 refine Ct.intro Tryz.func128 rfl Tryz.ntmps128 (nle rfl) fun w0=> ?_;dsimp only[argSlots,Nat.reduceAdd]
 repeat(first|(refine st ?_;intros)|(refine cq hS ?_)|(refine cq Next_ct ?_))
 (refine Dn.post (Hr:=[[(b,rowf cs E fz)]]) Tryz.results128 (hR:= ?_);exact⟨rfl,rfl⟩)
def bodyW (size:Nat) (tag:Int) (pw:List Int):List Int:=(pw++List.replicate (size-pw.length) 0).set (size-2) tag
def sealW (size:Nat) (address tag:Int) (pw:List Int):List Int:=(bodyW size tag pw).set (size-1) (lastW ((bodyW size tag pw).take (size-1)) pw.length address)
theorem zrep_w (m:Nat):zrep m [.int .u64 0]=wcells (List.replicate m 0):=by
 induction m with
 |zero=>rfl
 |succ m ih=>rw[zrep,ih];rfl
theorem wcells_set (ws:List Int) (i:Nat) (w:Int):(wcells ws).set i (.int .u64 w)=wcells (ws.set i w):=by
 unfold wcells;rw[List.map_set]
theorem setL_w {size:Nat} {pw:List Int} (h:pw.length≤size):setL (zrep size [.int .u64 0]) 0 (wcells pw)=wcells (pw++List.replicate (size-pw.length) 0):=by
 rw[zrep_w,setL_eq _ _ _ (by simp[wcells_length];exact h)]
 simp[wcells]
theorem Put_ct (size:Nat) (address tag:Int) (b q m cap:Nat) (cs:List Value) (E:Nat) (fz:Nat×Nat) (pw:List Int) (hs:8≤size∧size≤256) (ha:0≤address∧address≤1000000000) (hm:m≤size-2) (hws:(cs.drop q).take m=wcells pw) (hl:pw.length=m):
  Ct Tryz.prog 109 [.int .i64 (size:Int),.int .i64 address,.int .u64 tag,.slice (some ⟨b,q,none⟩) m cap] [[(b,rowf cs E fz)]] fun v H'=>
   ∃bl,v= .tuple #[.slice (some ⟨bl,0,none⟩) size size,.int .i64 0]∧H'=[[(bl,row (wcells (sealW size address tag pw)) 125)],[(b,rowf cs E fz)]]:=by
 have hR:=right_ct (size:Int) address (by omega) ha.1
 have hbl:(bodyW size tag pw).length=size:=by simp[bodyW];omega
 have hset:=setL_w (size:=size) (pw:=pw) (by omega)
 have hset2:(wcells (pw++List.replicate (size-pw.length) 0)).set (size-2) (.int .u64 tag)=wcells (bodyW size tag pw):=wcells_set (pw++List.replicate (size-pw.length) 0) (size-2) tag
 have hL:=fun bl=>last_ct bl m size size address (wcells (bodyW size tag pw)) 125 (0,0) ((bodyW size tag pw).take (size-1)) (by omega) (by omega) (Nat.le_refl _) (by omega) ha (by simp[wcells,List.map_take]) (by simp[hbl])
 have hset3:(wcells (bodyW size tag pw)).set (size-1) (.int .u64 (lastW ((bodyW size tag pw).take (size-1)) m address))=wcells (sealW size address tag pw):=by unfold sealW;rw[wcells_set,hl]
 have e1:((size:Int)-2).toNat=size-2:=by omega
 have e2:((size:Int)-1).toNat=size-1:=by omega
 have hmin:Nat.min m size=m:=Nat.min_eq_left (by omega)
 have hpl:(wcells pw).length=m:=by rw[wcells_length,hl]
 have hpa:=wcells_all pw
 have hzl:(zrep size [Value.int .u64 0]).length=size:=by rw[zrep_length];simp
 refine Ct.intro Tryz.func109 rfl Tryz.ntmps109 (nle rfl) fun w0=> ?_;dsimp only[argSlots,Nat.reduceAdd]
 repeat(first|(refine st ?_;intros)|(refine cq hR ?_)|(refine cq hL ?_))
 rename_i bl
 (refine Dn.post (Hr:=[[(bl,row (wcells (sealW size address tag pw)) 125)],[(b,rowf cs E fz)]]) Tryz.results109 (hR:= ?_);exact⟨bl,rfl,rfl⟩)
theorem GetF_ct (x:Int):CtQ Tryz.prog 139 [.int .u64 x] [] (.bool (dec (x≠0))):=by
 refine Ct.intro Tryz.func139 rfl Tryz.ntmps139 (nle rfl) fun w0=> ?_;dsimp only[argSlots,Nat.reduceAdd]
 repeat(refine st ?_;intros)
 (refine Dn.post (Hr:=[]) Tryz.results139 (hR:= ?_);exact⟨rfl,rfl⟩)
theorem IndexF_ct (b off n cap:Nat) (cs:List Value) (E:Nat) (fz:Nat×Nat) (ws:List Int) (hm:n≤1000000) (hws:(cs.drop off).take n=wcells ws) (hl:ws.length=n) (hz:∀w∈ws,w=0):
  CtQ Tryz.prog 152 [.slice (some ⟨b,off,none⟩) n cap,.func (.func 139) #[] #[]] [[(b,rowf cs E fz)]] (.int .i64 (-1)):=by
 refine Ct.intro Tryz.func152 rfl Tryz.ntmps152 (nle rfl) fun w0=> ?_;dsimp only[argSlots,Nat.reduceAdd]
 repeat(first|(refine st ?_;intros)|(refine cq GetF_ct ?_))
 refine G.loop (X:=Nat) (fun i=>i≤n) (fun i=>[(8,.int .i64 (i:Int)),(7,.int .i64 (n:Int)),(0,.slice (some ⟨b,off,none⟩) n cap),(1,.func (.func 139) #[] #[])]) (fun _=>[[(b,rowf cs E fz)]]) (fun i=>n-i) 0 (by omega) (body:= ?_)
 intro i hi
 by_cases h9:i<n
 ·have hg:=words_get hws hl h9
  have h0:ws.getD i 0=0:=by
   have hi':i<ws.length:=by omega
   rw[List.getD_eq_getElem?_getD,List.getElem?_eq_getElem hi']
   exact hz _ (List.getElem_mem hi')
  rw[h0] at hg
  repeat(first|(refine st ?_;intros)|(refine cq GetF_ct ?_))
  exact Dn.round (i+1) (by omega) (by omega)
 ·repeat(first|(refine st ?_;intros)|(refine cq GetF_ct ?_))
  (refine Dn.post (Hr:=[[(b,rowf cs E fz)]]) Tryz.results152 (hR:= ?_);exact⟨rfl,rfl⟩)
theorem ContainsF_ct (b off n cap:Nat) (cs:List Value) (E:Nat) (fz:Nat×Nat) (ws:List Int) (hm:n≤1000000) (hws:(cs.drop off).take n=wcells ws) (hl:ws.length=n) (hz:∀w∈ws,w=0):
  CtQ Tryz.prog 138 [.slice (some ⟨b,off,none⟩) n cap,.func (.func 139) #[] #[]] [[(b,rowf cs E fz)]] (.bool false):=by
 have hI:=IndexF_ct b off n cap cs E fz ws hm hws hl hz
 refine Ct.intro Tryz.func138 rfl Tryz.ntmps138 (nle rfl) fun w0=> ?_;dsimp only[argSlots,Nat.reduceAdd]
 repeat(first|(refine st ?_;intros)|(refine cq hI ?_))
 (refine Dn.post (Hr:=[[(b,rowf cs E fz)]]) Tryz.results138 (hR:= ?_);exact⟨by rw[dec_false (by decide)];rfl,rfl⟩)
theorem crcN_range (s x:Int):0≤crcN s x∧crcN s x<4294967296:=by
 unfold crcN bitsNot bits2
 simp only[IntKind.wrap,IntKind.bits,IntKind.signed,Bool.false_and]
 simp
 omega
theorem lastW_shr (ws:List Int) (n:Nat) (a:Int) (hn:n≤256):(lastW ws n a).fdiv (2^min (Int.toNat 32) IntKind.u64.bits)=(n:Int)+1:=by
 unfold lastW
 have hc:=crcN_range (crcN (crcSum ws) ((n:Int)+1)) a
 generalize crcN (crcN (crcSum ws) ((n:Int)+1)) a=c at hc
 obtain⟨c,rfl⟩:∃k:Nat,c=(k:Int):=⟨c.toNat,by omega⟩
 have e0:(2:Int)^min (Int.toNat 32) IntKind.u64.bits=4294967296:=by decide
 rw[e0,wrap_u64 (by omega),wrap_u64 (by omega)]
 have e1:((n:Int)+1)*4294967296=(((n+1)*4294967296:Nat):Int):=by omega
 rw[e1]
 have e3:bits2 .or .u64 (((n+1)*4294967296:Nat):Int) (c:Int)=IntKind.u64.wrap ((BitVec.ofInt 64 (((n+1)*4294967296:Nat):Int)|||BitVec.ofInt 64 (c:Int)).toNat:Int):=rfl
 rw[e3,BitVec.toNat_or,BitVec.ofInt_natCast,BitVec.ofInt_natCast,BitVec.toNat_ofNat,BitVec.toNat_ofNat]
 rw[Nat.mod_eq_of_lt (by omega),Nat.mod_eq_of_lt (by omega)]
 have e2:(n+1)*4294967296|||c=(n+1)*4294967296+c:=by
  have:=Nat.shiftLeft_add_eq_or_of_lt (a:=n+1) (b:=c) (i:=32) (by omega)
  rw[Nat.shiftLeft_eq] at this
  exact this.symm
 rw[e2,wrap_u64 (by omega)]
 rw[Int.fdiv_eq_ediv_of_nonneg _ (by decide)]
 omega
end Go.Proofs.YtjoicjgfgkpdjaaGreat
