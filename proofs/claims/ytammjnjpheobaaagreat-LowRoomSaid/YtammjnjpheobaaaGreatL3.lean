/-
  Parts of the proof, put together (3). No condition.
-/
import Derived.Test.YtammjnjpheobaaaGreatProg
import Derived.Test.YtammjnjpheobaaaGreatL2
set_option linter.unusedVariables false
set_option linter.unusedSimpArgs false
set_option linter.unnecessarySimpa false
set_option maxHeartbeats 4000000
open Go.IntKind renaming wrap→AH
open Go.Proofs.Tryz renaming prog→AC,sizeOf3→BZ,underlying3→CS,underlying138→DN,underlying115→D4,underlying155→D5,sizeOf4→EA
open List renaming cons_append→AA,nil_append→AB,getElem?_eq_getElem→AE,length_append→AF,mem_cons_self→AI,mem_cons_of_mem→AJ,length_cons→AL,mem_cons→AM,getD_eq_getElem?_getD→AN,mem_append→AO,append_nil→AQ,append_assoc→AR,length_nil→AU,mem_singleton→AY,mem_of_getElem?→AZ,take_of_length_le→A4,getElem?_append_left→A7,getElem?_append_right→BB,getElem?_eq_none→BC,length_take→BK,getElem?_drop→BS,take_append_drop→BT,getElem?_take→BV,replicate→BW,length_drop→CE,take_append_of_le_length→CK,getElem?_set_ne→CR,drop_append_of_le_length→CX,eq_nil_of_length_eq_zero→DC
open Nat renaming reduceAdd→AD,le_refl→AG,zero_add→BR,add_zero→B6,min_eq_left→C0,le_of_lt→EB
namespace Go.Proofs.YtammjnjpheobaaaGreat
open Go.SL
set_option maxRecDepth 100000
instance:Cell1 AC 2:=⟨Tryz.isAgg2,Tryz.sizeOf2⟩
instance:IntT AC 2 .i64:=⟨Tryz.underlying2⟩
instance:ZeroV AC 2 [.int .i64 0]:=⟨_,rfl,Tryz.zeroValue2⟩
instance:ElemT AC 2 1 8 [.int .i64 0]:=⟨by kernel_rfl⟩
instance:Cell1 AC 3:=⟨Tryz.isAgg3,BZ⟩
instance:IntT AC 3 .i64:=⟨CS⟩
instance:ElemT AC 3 1 8 [.int .i64 0]:=⟨by kernel_rfl⟩
instance:Cell1 AC 4:=⟨Tryz.isAgg4,EA⟩
instance:ElemT AC 4 1 1 [.bool false]:=⟨by kernel_rfl⟩
instance:Cell1 AC 5:=⟨Tryz.isAgg5,Tryz.sizeOf5⟩
instance:IntT AC 5 .u8:=⟨Tryz.underlying5⟩
instance:Cell1 AC 24:=⟨Tryz.isAgg24,Tryz.sizeOf24⟩
instance:PtrT AC 24:=⟨by kernel_rfl⟩
instance:AggN AC 27 4:=⟨Tryz.isAgg27,Tryz.sizeOf27⟩
instance:FieldOff AC 27 0 0:=FieldOff.of (m:=0) _ _ Tryz.underlying27 rfl rfl BZ
instance:FieldOff AC 27 1 1:=FieldOff.of (m:=0) _ _ Tryz.underlying27 rfl rfl BZ
instance:FieldOff AC 27 2 2:=FieldOff.of (m:=0) _ _ Tryz.underlying27 rfl rfl BZ
instance:FieldOff AC 27 3 3:=FieldOff.of (m:=0) _ _ Tryz.underlying27 rfl rfl BZ
instance:BuildT AC 27 (fun i=>([(0,1),(1,1),(2,1),(3,1)]:List (Nat×Nat))[i]?) [.int .i64 0,.int .i64 0,.int .i64 0,.int .i64 0]:=BuildT.ofS (fun parts=>by kernel_rfl)
instance:Eq4 AC 27:=Eq4.of Tryz.underlying27 (by decide) ⟨rfl,rfl,rfl,rfl⟩ CS Tryz.isAgg3 Tryz.eqGuardType27 Tryz.stoodInHeld27
instance:ZeroV AC 27 [.int .i64 0,.int .i64 0,.int .i64 0,.int .i64 0]:=⟨_,rfl,Tryz.zeroValue27⟩
instance:ElemT AC 27 4 32 [.int .i64 0,.int .i64 0,.int .i64 0,.int .i64 0]:=⟨by kernel_rfl⟩
instance:Cell1 AC 28:=⟨Tryz.isAgg28,Tryz.sizeOf28⟩
instance:Cell1 AC 31:=⟨Tryz.isAgg31,Tryz.sizeOf31⟩
instance:PtrT AC 31:=⟨by kernel_rfl⟩
instance:Cell1 AC 35:=⟨Tryz.isAgg35,Tryz.sizeOf35⟩
instance:SliceT AC 35 51 2:=⟨Tryz.underlying35,Tryz.sizeOf51⟩
instance:AggN AC 37 2:=⟨Tryz.isAgg37,Tryz.sizeOf37⟩
instance:FieldOff AC 37 0 0:=FieldOff.of (m:=0) _ _ Tryz.underlying37 rfl rfl BZ
instance:FieldOff AC 37 1 1:=FieldOff.of (m:=0) _ _ Tryz.underlying37 rfl rfl Tryz.sizeOf35
instance:BuildT AC 37 (fun i=>([(0,1),(1,1)]:List (Nat×Nat))[i]?) [.int .i64 0,.slice none 0 0]:=BuildT.ofS (fun parts=>by kernel_rfl)
instance:ZeroV AC 37 [.int .i64 0,.slice none 0 0]:=⟨_,rfl,Tryz.zeroValue37⟩
instance:Cell1 AC 42:=⟨Tryz.isAgg42,Tryz.sizeOf42⟩
instance:SliceT AC 42 49 5:=⟨Tryz.underlying42,Tryz.sizeOf49⟩
instance:AggN AC 49 5:=⟨Tryz.isAgg49,Tryz.sizeOf49⟩
instance:ArrT AC 49 5 2 1:=⟨Tryz.underlying49,Tryz.sizeOf2⟩
instance:BuildT AC 49 (fun i=>some (i*1,1)) [.int .i64 0,.int .i64 0,.int .i64 0,.int .i64 0,.int .i64 0]:=⟨fun parts=>by kernel_rfl⟩
instance:Eq5 AC 49:=Eq5.of Tryz.underlying49 Tryz.underlying2 Tryz.type2 Tryz.isAgg2 (by kernel_rfl) Tryz.eqGuardType49
instance:ZeroV AC 49 [.int .i64 0,.int .i64 0,.int .i64 0,.int .i64 0,.int .i64 0]:=⟨_,rfl,Tryz.zeroValue49⟩
instance:ElemT AC 49 5 40 [.int .i64 0,.int .i64 0,.int .i64 0,.int .i64 0,.int .i64 0]:=⟨by kernel_rfl⟩
instance:AggN AC 51 2:=⟨Tryz.isAgg51,Tryz.sizeOf51⟩
instance:FieldOff AC 51 0 0:=FieldOff.of (m:=0) _ _ Tryz.underlying51 rfl rfl BZ
instance:FieldOff AC 51 1 1:=FieldOff.of (m:=0) _ _ Tryz.underlying51 rfl rfl BZ
instance:BuildT AC 51 (fun i=>([(0,1),(1,1)]:List (Nat×Nat))[i]?) [.int .i64 0,.int .i64 0]:=BuildT.ofS (fun parts=>by kernel_rfl)
instance:ZeroV AC 51 [.int .i64 0,.int .i64 0]:=⟨_,rfl,Tryz.zeroValue51⟩
instance:ElemT AC 51 2 16 [.int .i64 0,.int .i64 0]:=⟨by kernel_rfl⟩
instance:IntT AC 56 .u16:=⟨Tryz.underlying56⟩
instance:Cell1 AC 57:=⟨Tryz.isAgg57,Tryz.sizeOf57⟩
instance:PtrT AC 57:=⟨by kernel_rfl⟩
instance:Cell1 AC 61:=⟨Tryz.isAgg61,Tryz.sizeOf61⟩
instance:SliceT AC 61 27 4:=⟨Tryz.underlying61,Tryz.sizeOf27⟩
instance:ArrT AC 63 3 5 1:=⟨Tryz.underlying63,Tryz.sizeOf5⟩
instance:AggN AC 71 5:=⟨Tryz.isAgg71,Tryz.sizeOf71⟩
instance:FieldOff AC 71 0 0:=FieldOff.of (m:=0) _ _ Tryz.underlying71 rfl rfl Tryz.sizeOf42
instance:FieldOff AC 71 1 1:=FieldOff.of (m:=0) _ _ Tryz.underlying71 rfl rfl Tryz.sizeOf42
instance:FieldOff AC 71 2 2:=FieldOff.of (m:=0) _ _ Tryz.underlying71 rfl rfl Tryz.sizeOf42
instance:FieldOff AC 71 3 3:=FieldOff.of (m:=0) _ _ Tryz.underlying71 rfl rfl Tryz.sizeOf42
instance:FieldOff AC 71 4 4:=FieldOff.of (m:=0) _ _ Tryz.underlying71 rfl rfl Tryz.sizeOf42
instance:ZeroV AC 71 [.slice none 0 0,.slice none 0 0,.slice none 0 0,.slice none 0 0,.slice none 0 0]:=⟨_,rfl,Tryz.zeroValue71⟩
instance:Cell1 AC 80:=⟨Tryz.isAgg80,Tryz.sizeOf80⟩
instance:PtrT AC 80:=⟨by kernel_rfl⟩
instance:Cell1 AC 82:=⟨Tryz.isAgg82,Tryz.sizeOf82⟩
instance:ZeroV AC 82 [.pointer none]:=⟨_,rfl,Tryz.zeroValue82⟩
instance:Cell1 AC 87:=⟨Tryz.isAgg87,Tryz.sizeOf87⟩
instance:Cell1 AC 88:=⟨Tryz.isAgg88,Tryz.sizeOf88⟩
instance:AggN AC 91 5:=⟨Tryz.isAgg91,Tryz.sizeOf91⟩
instance:ArrT AC 91 5 3 1:=⟨Tryz.underlying91,BZ⟩
instance:BuildT AC 91 (fun i=>some (i*1,1)) [.int .i64 0,.int .i64 0,.int .i64 0,.int .i64 0,.int .i64 0]:=⟨fun parts=>by kernel_rfl⟩
instance:ZeroV AC 91 [.int .i64 0,.int .i64 0,.int .i64 0,.int .i64 0,.int .i64 0]:=⟨_,rfl,Tryz.zeroValue91⟩
instance:FieldOff AC 95 0 0:=FieldOff.of (m:=0) _ _ Tryz.underlying95 rfl rfl Tryz.sizeOf24
instance:FieldOff AC 95 1 1:=FieldOff.of (m:=0) _ _ Tryz.underlying95 rfl rfl Tryz.sizeOf28
instance:FieldOff AC 95 2 2:=FieldOff.of (m:=0) _ _ Tryz.underlying95 rfl rfl Tryz.sizeOf61
instance:BuildT AC 95 (fun i=>([(0,1),(1,1),(2,1)]:List (Nat×Nat))[i]?) [.pointer none,.int .i64 0,.slice none 0 0]:=BuildT.ofS (fun parts=>by kernel_rfl)
instance:FieldOff AC 101 0 0:=FieldOff.of (m:=0) _ _ Tryz.underlying101 rfl rfl Tryz.sizeOf57
instance:FieldOff AC 101 1 1:=FieldOff.of (m:=0) _ _ Tryz.underlying101 rfl rfl Tryz.sizeOf31
instance:FieldOff AC 101 2 2:=FieldOff.of (m:=0) _ _ Tryz.underlying101 rfl rfl Tryz.sizeOf80
instance:BuildT AC 101 (fun i=>([(0,1),(1,1),(2,1)]:List (Nat×Nat))[i]?) [.pointer none,.pointer none,.pointer none]:=BuildT.ofS (fun parts=>by kernel_rfl)
instance:Cell1 AC 102:=⟨Tryz.isAgg102,Tryz.sizeOf102⟩
instance:MapT AC 102 151 3:=⟨Tryz.underlying102⟩
instance:FieldOff AC 104 0 0:=FieldOff.of (m:=0) _ _ Tryz.underlying104 rfl rfl BZ
instance:FieldOff AC 104 1 1:=FieldOff.of (m:=0) _ _ Tryz.underlying104 rfl rfl BZ
instance:FieldOff AC 104 2 2:=FieldOff.of (m:=0) _ _ Tryz.underlying104 rfl rfl BZ
instance:FieldOff AC 104 3 3:=FieldOff.of (m:=0) _ _ Tryz.underlying104 rfl rfl Tryz.sizeOf102
instance:BuildT AC 104 (fun i=>([(0,1),(1,1),(2,1),(3,1)]:List (Nat×Nat))[i]?) [.int .i64 0,.int .i64 0,.int .i64 0,.map none]:=BuildT.ofS (fun parts=>by kernel_rfl)
instance:Cell1 AC 105:=⟨Tryz.isAgg105,Tryz.sizeOf105⟩
instance:PtrT AC 105:=⟨by kernel_rfl⟩
instance:Cell1 AC 112:=⟨Tryz.isAgg112,Tryz.sizeOf112⟩
instance:MapT AC 112 3 159:=⟨Tryz.underlying112⟩
instance:Cell1 AC 113:=⟨Tryz.isAgg113,Tryz.sizeOf113⟩
instance:SliceT AC 113 222 2:=⟨Tryz.underlying113,Tryz.sizeOf222⟩
instance:FieldOff AC 115 0 0:=FieldOff.of (m:=0) _ _ D4 rfl rfl BZ
instance:FieldOff AC 115 1 1:=FieldOff.of (m:=0) _ _ D4 rfl rfl BZ
instance:FieldOff AC 115 3 3:=FieldOff.of (m:=0) _ _ D4 rfl rfl Tryz.sizeOf112
instance:FieldOff AC 115 4 4:=FieldOff.of (m:=0) _ _ D4 rfl rfl Tryz.sizeOf113
instance:FieldOff AC 115 5 5:=FieldOff.of (m:=0) _ _ D4 rfl rfl BZ
instance:FieldOff AC 115 6 6:=FieldOff.of (m:=0) _ _ D4 rfl rfl BZ
instance:FieldOff AC 115 7 7:=FieldOff.of (m:=0) _ _ D4 rfl rfl EA
instance:FieldOff AC 115 8 8:=FieldOff.of (m:=0) _ _ D4 rfl rfl BZ
instance:BuildT AC 115 (fun i=>([(0,1),(1,1),(2,1),(3,1),(4,1),(5,1),(6,1),(7,1),(8,1)]:List (Nat×Nat))[i]?) [.int .i64 0,.int .i64 0,.map none,.map none,.slice none 0 0,.int .i64 0,.int .i64 0,.bool false,.int .i64 0]:=BuildT.ofS (fun parts=>by kernel_rfl)
instance:Cell1 AC 120:=⟨Tryz.isAgg120,Tryz.sizeOf120⟩
instance:PtrT AC 120:=⟨by kernel_rfl⟩
instance:ZeroV AC 120 [.pointer none]:=⟨_,rfl,Tryz.zeroValue120⟩
instance:AggN AC 126 2:=⟨Tryz.isAgg126,Tryz.sizeOf126⟩
instance:FieldOff AC 126 0 0:=FieldOff.of (m:=0) _ _ Tryz.underlying126 rfl rfl BZ
instance:FieldOff AC 126 1 1:=FieldOff.of (m:=0) _ _ Tryz.underlying126 rfl rfl BZ
instance:BuildT AC 126 (fun i=>([(0,1),(1,1)]:List (Nat×Nat))[i]?) [.int .i64 0,.int .i64 0]:=BuildT.ofS (fun parts=>by kernel_rfl)
instance:ZeroV AC 126 [.int .i64 0,.int .i64 0]:=⟨_,rfl,Tryz.zeroValue126⟩
instance:ElemT AC 126 2 16 [.int .i64 0,.int .i64 0]:=⟨by kernel_rfl⟩
instance:Cell1 AC 127:=⟨Tryz.isAgg127,Tryz.sizeOf127⟩
instance:SliceT AC 127 126 2:=⟨Tryz.underlying127,Tryz.sizeOf126⟩
instance:FieldOff AC 129 0 0:=FieldOff.of (m:=1) _ _ Tryz.underlying129 rfl rfl Tryz.sizeOf126
instance:FieldOff AC 129 1 2:=FieldOff.of (m:=0) _ _ Tryz.underlying129 rfl rfl Tryz.sizeOf127
instance:BuildT AC 129 (fun i=>([(0,2),(2,1)]:List (Nat×Nat))[i]?) [.int .i64 0,.int .i64 0,.slice none 0 0]:=BuildT.ofS (fun parts=>by kernel_rfl)
instance:Cell1 AC 136:=⟨Tryz.isAgg136,Tryz.sizeOf136⟩
instance:FieldOff AC 138 0 0:=FieldOff.of (m:=0) _ _ DN rfl rfl Tryz.sizeOf136
instance:FieldOff AC 138 1 1:=FieldOff.of (m:=4) _ _ DN rfl rfl Tryz.sizeOf49
instance:FieldOff AC 138 2 6:=FieldOff.of (m:=0) _ _ DN rfl rfl EA
instance:FieldOff AC 138 3 7:=FieldOff.of (m:=0) _ _ DN rfl rfl EA
instance:FieldOff AC 138 4 8:=FieldOff.of (m:=0) _ _ DN rfl rfl BZ
instance:FieldOff AC 138 5 9:=FieldOff.of (m:=0) _ _ DN rfl rfl BZ
instance:FieldOff AC 138 6 10:=FieldOff.of (m:=0) _ _ DN rfl rfl BZ
instance:FieldOff AC 138 7 11:=FieldOff.of (m:=0) _ _ DN rfl rfl Tryz.sizeOf2
instance:FieldOff AC 138 8 12:=FieldOff.of (m:=0) _ _ DN rfl rfl EA
instance:BuildT AC 138 (fun i=>([(0,1),(1,5),(6,1),(7,1),(8,1),(9,1),(10,1),(11,1),(12,1)]:List (Nat×Nat))[i]?) [.nilFunc,.int .i64 0,.int .i64 0,.int .i64 0,.int .i64 0,.int .i64 0,.bool false,.bool false,.int .i64 0,.int .i64 0,.int .i64 0,.int .i64 0,.bool false]:=BuildT.ofS (fun parts=>by kernel_rfl)
instance:Cell1 AC 151:=⟨Tryz.isAgg151,Tryz.sizeOf151⟩
instance:PtrT AC 151:=⟨by kernel_rfl⟩
instance:PtrKey AC 151:=⟨161,1,Tryz.underlying151,by decide,Tryz.sizeOf161⟩
instance:FieldOff AC 155 0 0:=FieldOff.of (m:=0) _ _ D5 rfl rfl Tryz.sizeOf24
instance:FieldOff AC 155 1 1:=FieldOff.of (m:=3) _ _ D5 rfl rfl Tryz.sizeOf27
instance:FieldOff AC 155 2 5:=FieldOff.of (m:=0) _ _ D5 rfl rfl Tryz.sizeOf151
instance:FieldOff AC 155 3 6:=FieldOff.of (m:=0) _ _ D5 rfl rfl BZ
instance:FieldOff AC 155 4 7:=FieldOff.of (m:=0) _ _ D5 rfl rfl BZ
instance:FieldOff AC 155 5 8:=FieldOff.of (m:=0) _ _ D5 rfl rfl BZ
instance:FieldOff AC 155 6 9:=FieldOff.of (m:=0) _ _ D5 rfl rfl BZ
instance:FieldOff AC 155 7 10:=FieldOff.of (m:=0) _ _ D5 rfl rfl EA
instance:BuildT AC 155 (fun i=>([(0,1),(1,4),(5,1),(6,1),(7,1),(8,1),(9,1),(10,1)]:List (Nat×Nat))[i]?) [.pointer none,.int .i64 0,.int .i64 0,.int .i64 0,.int .i64 0,.pointer none,.int .i64 0,.int .i64 0,.int .i64 0,.int .i64 0,.bool false]:=BuildT.ofS (fun parts=>by kernel_rfl)
instance:Cell1 AC 158:=⟨Tryz.isAgg158,Tryz.sizeOf158⟩
instance:IntT AC 158 .u64:=⟨Tryz.underlying158⟩
instance:ElemT AC 158 1 8 [.int .u64 0]:=⟨by kernel_rfl⟩
instance:Cell1 AC 159:=⟨Tryz.isAgg159,Tryz.sizeOf159⟩
instance:SliceT AC 159 158 1:=⟨Tryz.underlying159,Tryz.sizeOf158⟩
instance:FieldOff AC 161 0 0:=FieldOff.of (m:=0) _ _ Tryz.underlying161 rfl rfl Tryz.sizeOf159
instance:BuildT AC 161 (fun i=>([(0,1)]:List (Nat×Nat))[i]?) [.slice none 0 0]:=BuildT.ofS (fun parts=>by kernel_rfl)
instance:SliceT AC 163 2 1:=⟨Tryz.underlying163,Tryz.sizeOf2⟩
instance:SliceT AC 166 3 1:=⟨Tryz.underlying166,BZ⟩
instance:SliceT AC 168 4 1:=⟨Tryz.underlying168,EA⟩
instance:FieldOff AC 178 0 0:=FieldOff.of (m:=0) _ _ Tryz.underlying178 rfl rfl Tryz.sizeOf24
instance:FieldOff AC 178 1 1:=FieldOff.of (m:=3) _ _ Tryz.underlying178 rfl rfl Tryz.sizeOf27
instance:FieldOff AC 178 2 5:=FieldOff.of (m:=0) _ _ Tryz.underlying178 rfl rfl BZ
instance:FieldOff AC 178 3 6:=FieldOff.of (m:=0) _ _ Tryz.underlying178 rfl rfl Tryz.sizeOf151
instance:FieldOff AC 178 4 7:=FieldOff.of (m:=0) _ _ Tryz.underlying178 rfl rfl BZ
instance:FieldOff AC 178 5 8:=FieldOff.of (m:=0) _ _ Tryz.underlying178 rfl rfl BZ
instance:FieldOff AC 178 6 9:=FieldOff.of (m:=0) _ _ Tryz.underlying178 rfl rfl EA
instance:BuildT AC 178 (fun i=>([(0,1),(1,4),(5,1),(6,1),(7,1),(8,1),(9,1)]:List (Nat×Nat))[i]?) [.pointer none,.int .i64 0,.int .i64 0,.int .i64 0,.int .i64 0,.int .i64 0,.pointer none,.int .i64 0,.int .i64 0,.bool false]:=BuildT.ofS (fun parts=>by kernel_rfl)
instance:FieldOff AC 186 0 0:=FieldOff.of (m:=0) _ _ Tryz.underlying186 rfl rfl Tryz.sizeOf24
instance:FieldOff AC 186 1 1:=FieldOff.of (m:=4) _ _ Tryz.underlying186 rfl rfl Tryz.sizeOf91
instance:FieldOff AC 186 2 6:=FieldOff.of (m:=0) _ _ Tryz.underlying186 rfl rfl EA
instance:FieldOff AC 186 3 7:=FieldOff.of (m:=0) _ _ Tryz.underlying186 rfl rfl Tryz.sizeOf61
instance:FieldOff AC 186 4 8:=FieldOff.of (m:=4) _ _ Tryz.underlying186 rfl rfl Tryz.sizeOf49
instance:FieldOff AC 186 5 13:=FieldOff.of (m:=0) _ _ Tryz.underlying186 rfl rfl EA
instance:BuildT AC 186 (fun i=>([(0,1),(1,5),(6,1),(7,1),(8,5),(13,1)]:List (Nat×Nat))[i]?) [.pointer none,.int .i64 0,.int .i64 0,.int .i64 0,.int .i64 0,.int .i64 0,.bool false,.slice none 0 0,.int .i64 0,.int .i64 0,.int .i64 0,.int .i64 0,.int .i64 0,.bool false]:=BuildT.ofS (fun parts=>by kernel_rfl)
instance:Cell1 AC 196:=⟨Tryz.isAgg196,Tryz.sizeOf196⟩
instance:Cell1 AC 197:=⟨Tryz.isAgg197,Tryz.sizeOf197⟩
instance:FieldOff AC 199 0 0:=FieldOff.of (m:=0) _ _ Tryz.underlying199 rfl rfl Tryz.sizeOf197
instance:FieldOff AC 199 1 1:=FieldOff.of (m:=4) _ _ Tryz.underlying199 rfl rfl Tryz.sizeOf49
instance:FieldOff AC 199 2 6:=FieldOff.of (m:=0) _ _ Tryz.underlying199 rfl rfl EA
instance:BuildT AC 199 (fun i=>([(0,1),(1,5),(6,1)]:List (Nat×Nat))[i]?) [.nilFunc,.int .i64 0,.int .i64 0,.int .i64 0,.int .i64 0,.int .i64 0,.bool false]:=BuildT.ofS (fun parts=>by kernel_rfl)
instance:ArrT AC 208 6 4 1:=⟨Tryz.underlying208,EA⟩
instance:ZeroV AC 208 [.bool false,.bool false,.bool false,.bool false,.bool false,.bool false]:=⟨_,rfl,Tryz.zeroValue208⟩
instance:PtrT AC 209:=⟨by kernel_rfl⟩
instance:FieldOff AC 211 0 0:=FieldOff.of (m:=0) _ _ Tryz.underlying211 rfl rfl Tryz.sizeOf151
instance:FieldOff AC 211 1 1:=FieldOff.of (m:=0) _ _ Tryz.underlying211 rfl rfl BZ
instance:FieldOff AC 211 2 2:=FieldOff.of (m:=0) _ _ Tryz.underlying211 rfl rfl BZ
instance:FieldOff AC 211 3 3:=FieldOff.of (m:=4) _ _ Tryz.underlying211 rfl rfl Tryz.sizeOf91
instance:BuildT AC 211 (fun i=>([(0,1),(1,1),(2,1),(3,5)]:List (Nat×Nat))[i]?) [.pointer none,.int .i64 0,.int .i64 0,.int .i64 0,.int .i64 0,.int .i64 0,.int .i64 0,.int .i64 0]:=BuildT.ofS (fun parts=>by kernel_rfl)
instance:IntT AC 217 .u64:=⟨Tryz.underlying217⟩
instance:BuildT AC 222 (fun i=>([(0,1),(1,1)]:List (Nat×Nat))[i]?) [.int .i64 0,.slice none 0 0]:=BuildT.ofS (fun parts=>by kernel_rfl)
instance:ElemT AC 222 2 32 [.int .i64 0,.slice none 0 0]:=⟨by kernel_rfl⟩
instance:Cell1 AC 232:=⟨Tryz.isAgg232,Tryz.sizeOf232⟩
instance:PtrT AC 232:=⟨by kernel_rfl⟩
instance:ZeroV AC 232 [.pointer none]:=⟨_,rfl,Tryz.zeroValue232⟩
instance:Cell1 AC 233:=⟨Tryz.isAgg233,Tryz.sizeOf233⟩
instance:SliceT AC 233 237 7:=⟨Tryz.underlying233,Tryz.sizeOf237⟩
instance:FieldOff AC 235 0 0:=FieldOff.of (m:=0) _ _ Tryz.underlying235 rfl rfl Tryz.sizeOf233
instance:FieldOff AC 235 1 1:=FieldOff.of (m:=4) _ _ Tryz.underlying235 rfl rfl Tryz.sizeOf91
instance:BuildT AC 235 (fun i=>([(0,1),(1,5)]:List (Nat×Nat))[i]?) [.slice none 0 0,.int .i64 0,.int .i64 0,.int .i64 0,.int .i64 0,.int .i64 0]:=BuildT.ofS (fun parts=>by kernel_rfl)
instance:AggN AC 237 7:=⟨Tryz.isAgg237,Tryz.sizeOf237⟩
instance:FieldOff AC 237 0 0:=FieldOff.of (m:=4) _ _ Tryz.underlying237 rfl rfl Tryz.sizeOf49
instance:FieldOff AC 237 1 5:=FieldOff.of (m:=0) _ _ Tryz.underlying237 rfl rfl BZ
instance:FieldOff AC 237 2 6:=FieldOff.of (m:=0) _ _ Tryz.underlying237 rfl rfl Tryz.sizeOf105
instance:BuildT AC 237 (fun i=>([(0,5),(5,1),(6,1)]:List (Nat×Nat))[i]?) [.int .i64 0,.int .i64 0,.int .i64 0,.int .i64 0,.int .i64 0,.int .i64 0,.pointer none]:=BuildT.ofS (fun parts=>by kernel_rfl)
instance:ZeroV AC 237 [.int .i64 0,.int .i64 0,.int .i64 0,.int .i64 0,.int .i64 0,.int .i64 0,.pointer none]:=⟨_,rfl,Tryz.zeroValue237⟩
instance:ElemT AC 237 7 56 [.int .i64 0,.int .i64 0,.int .i64 0,.int .i64 0,.int .i64 0,.int .i64 0,.pointer none]:=⟨by kernel_rfl⟩
instance:IntT AC 241 .u32:=⟨Tryz.underlying241⟩
instance:Callable AC 16:=⟨Tryz.call16⟩
instance:Callable AC 17:=⟨Tryz.call17⟩
instance:Callable AC 18:=⟨Tryz.call18⟩
instance:Callable AC 19:=⟨Tryz.call19⟩
instance:Callable AC 21:=⟨Tryz.call21⟩
instance:Callable AC 23:=⟨Tryz.call23⟩
instance:Callable AC 24:=⟨Tryz.call24⟩
instance:Callable AC 25:=⟨Tryz.call25⟩
instance:Callable AC 27:=⟨Tryz.call27⟩
instance:Callable AC 28:=⟨Tryz.call28⟩
instance:Callable AC 29:=⟨Tryz.call29⟩
instance:Callable AC 30:=⟨Tryz.call30⟩
instance:Callable AC 31:=⟨Tryz.call31⟩
instance:Callable AC 32:=⟨Tryz.call32⟩
instance:Callable AC 33:=⟨Tryz.call33⟩
instance:Callable AC 34:=⟨Tryz.call34⟩
instance:Callable AC 35:=⟨Tryz.call35⟩
instance:Callable AC 36:=⟨Tryz.call36⟩
instance:Callable AC 37:=⟨Tryz.call37⟩
instance:Callable AC 38:=⟨Tryz.call38⟩
instance:Callable AC 39:=⟨Tryz.call39⟩
instance:Callable AC 40:=⟨Tryz.call40⟩
instance:Callable AC 41:=⟨Tryz.call41⟩
instance:Callable AC 42:=⟨Tryz.call42⟩
instance:Callable AC 44:=⟨Tryz.call44⟩
instance:Callable AC 45:=⟨Tryz.call45⟩
instance:Callable AC 47:=⟨Tryz.call47⟩
instance:Callable AC 52:=⟨Tryz.call52⟩
instance:Callable AC 53:=⟨Tryz.call53⟩
instance:Callable AC 54:=⟨Tryz.call54⟩
instance:Callable AC 55:=⟨Tryz.call55⟩
instance:Callable AC 56:=⟨Tryz.call56⟩
instance:Callable AC 57:=⟨Tryz.call57⟩
instance:Callable AC 58:=⟨Tryz.call58⟩
instance:Callable AC 59:=⟨Tryz.call59⟩
instance:Callable AC 60:=⟨Tryz.call60⟩
instance:Callable AC 61:=⟨Tryz.call61⟩
instance:Callable AC 62:=⟨Tryz.call62⟩
instance:Callable AC 63:=⟨Tryz.call63⟩
instance:Callable AC 64:=⟨Tryz.call64⟩
instance:Callable AC 65:=⟨Tryz.call65⟩
instance:Callable AC 66:=⟨Tryz.call66⟩
instance:Callable AC 67:=⟨Tryz.call67⟩
instance:Callable AC 68:=⟨Tryz.call68⟩
instance:Callable AC 69:=⟨Tryz.call69⟩
instance:Callable AC 70:=⟨Tryz.call70⟩
instance:Callable AC 71:=⟨Tryz.call71⟩
instance:Callable AC 72:=⟨Tryz.call72⟩
instance:Callable AC 73:=⟨Tryz.call73⟩
instance:Callable AC 74:=⟨Tryz.call74⟩
instance:Callable AC 75:=⟨Tryz.call75⟩
instance:Callable AC 76:=⟨Tryz.call76⟩
instance:Callable AC 77:=⟨Tryz.call77⟩
instance:Callable AC 78:=⟨Tryz.call78⟩
instance:Callable AC 79:=⟨Tryz.call79⟩
instance:Callable AC 80:=⟨Tryz.call80⟩
instance:Callable AC 81:=⟨Tryz.call81⟩
instance:Callable AC 82:=⟨Tryz.call82⟩
instance:Callable AC 83:=⟨Tryz.call83⟩
instance:Callable AC 84:=⟨Tryz.call84⟩
instance:Callable AC 85:=⟨Tryz.call85⟩
instance:Callable AC 86:=⟨Tryz.call86⟩
instance:Callable AC 87:=⟨Tryz.call87⟩
instance:Callable AC 90:=⟨Tryz.call90⟩
instance:Callable AC 93:=⟨Tryz.call93⟩
instance:Callable AC 96:=⟨Tryz.call96⟩
instance:Callable AC 97:=⟨Tryz.call97⟩
instance:Callable AC 98:=⟨Tryz.call98⟩
instance:Callable AC 99:=⟨Tryz.call99⟩
instance:Callable AC 100:=⟨Tryz.call100⟩
instance:Callable AC 101:=⟨Tryz.call101⟩
instance:Callable AC 102:=⟨Tryz.call102⟩
instance:Callable AC 103:=⟨Tryz.call103⟩
instance:Callable AC 104:=⟨Tryz.call104⟩
instance:Callable AC 105:=⟨Tryz.call105⟩
instance:Callable AC 106:=⟨Tryz.call106⟩
instance:Callable AC 107:=⟨Tryz.call107⟩
instance:Callable AC 108:=⟨Tryz.call108⟩
instance:Callable AC 109:=⟨Tryz.call109⟩
instance:Callable AC 110:=⟨Tryz.call110⟩
instance:Callable AC 111:=⟨Tryz.call111⟩
instance:Callable AC 112:=⟨Tryz.call112⟩
instance:Callable AC 113:=⟨Tryz.call113⟩
instance:Callable AC 114:=⟨Tryz.call114⟩
instance:Callable AC 115:=⟨Tryz.call115⟩
instance:Callable AC 116:=⟨Tryz.call116⟩
instance:Callable AC 117:=⟨Tryz.call117⟩
instance:Callable AC 118:=⟨Tryz.call118⟩
instance:Callable AC 119:=⟨Tryz.call119⟩
instance:Callable AC 120:=⟨Tryz.call120⟩
instance:Callable AC 121:=⟨Tryz.call121⟩
instance:Callable AC 122:=⟨Tryz.call122⟩
instance:Callable AC 123:=⟨Tryz.call123⟩
instance:Callable AC 124:=⟨Tryz.call124⟩
instance:Callable AC 125:=⟨Tryz.call125⟩
instance:Callable AC 126:=⟨Tryz.call126⟩
instance:Callable AC 127:=⟨Tryz.call127⟩
instance:Callable AC 128:=⟨Tryz.call128⟩
instance:Callable AC 129:=⟨Tryz.call129⟩
instance:Callable AC 130:=⟨Tryz.call130⟩
instance:Callable AC 143:=⟨Tryz.call143⟩
instance:Callable AC 144:=⟨Tryz.call144⟩
instance:Callable AC 145:=⟨Tryz.call145⟩
instance:Callable AC 146:=⟨Tryz.call146⟩
instance:Callable AC 147:=⟨Tryz.call147⟩
instance:Callable AC 148:=⟨Tryz.call148⟩
instance:Callable AC 149:=⟨Tryz.call149⟩
instance:Callable AC 150:=⟨Tryz.call150⟩
instance:Callable AC 151:=⟨Tryz.call151⟩
instance:Callable AC 152:=⟨Tryz.call152⟩
instance:Callable AC 153:=⟨Tryz.call153⟩
instance:Callable AC 154:=⟨Tryz.call154⟩
instance:Callable AC 155:=⟨Tryz.call155⟩
instance:Callable AC 156:=⟨Tryz.call156⟩
instance:Callable AC 157:=⟨Tryz.call157⟩
instance:Callable AC 158:=⟨Tryz.call158⟩
instance:Callable AC 159:=⟨Tryz.call159⟩
instance:Callable AC 160:=⟨Tryz.call160⟩
instance:Callable AC 161:=⟨Tryz.call161⟩
instance:Callable AC 162:=⟨Tryz.call162⟩
instance:Callable AC 163:=⟨Tryz.call163⟩
instance:Callable AC 164:=⟨Tryz.call164⟩
instance:Callable AC 166:=⟨Tryz.call166⟩
instance:Callable AC 167:=⟨Tryz.call167⟩
instance:Callable AC 168:=⟨Tryz.call168⟩
instance:Callable AC 169:=⟨Tryz.call169⟩
instance:Callable AC 170:=⟨Tryz.call170⟩
instance:Callable AC 171:=⟨Tryz.call171⟩
instance:Callable AC 172:=⟨Tryz.call172⟩
instance:Callable AC 173:=⟨Tryz.call173⟩
instance:Callable AC 174:=⟨Tryz.call174⟩
instance:Callable AC 175:=⟨Tryz.call175⟩
instance:Callable AC 176:=⟨Tryz.call176⟩
instance:Callable AC 180:=⟨Tryz.call180⟩
instance:Callable AC 181:=⟨Tryz.call181⟩
instance:Callable AC 182:=⟨Tryz.call182⟩
instance:Callable AC 183:=⟨Tryz.call183⟩
instance:Callable AC 184:=⟨Tryz.call184⟩
instance:Callable AC 185:=⟨Tryz.call185⟩
instance:Callable AC 186:=⟨Tryz.call186⟩
instance:Callable AC 187:=⟨Tryz.call187⟩
instance:Callable AC 188:=⟨Tryz.call188⟩
instance:Callable AC 189:=⟨Tryz.call189⟩
instance:Callable AC 190:=⟨Tryz.call190⟩
instance:Callable AC 192:=⟨Tryz.call192⟩
instance:Callable AC 193:=⟨Tryz.call193⟩
instance:Callable AC 194:=⟨Tryz.call194⟩
instance:Callable AC 195:=⟨Tryz.call195⟩
instance:Callable AC 197:=⟨Tryz.call197⟩
instance:Callable AC 198:=⟨Tryz.call198⟩
instance:Callable AC 199:=⟨Tryz.call199⟩
instance:Callable AC 200:=⟨Tryz.call200⟩
instance:Callable AC 201:=⟨Tryz.call201⟩
instance:Callable AC 202:=⟨Tryz.call202⟩
instance:Callable AC 220:=⟨Tryz.call220⟩
instance:Callable AC 221:=⟨Tryz.call221⟩
instance:Callable AC 222:=⟨Tryz.call222⟩
instance:Callable AC 223:=⟨Tryz.call223⟩
instance:Callable AC 224:=⟨Tryz.call224⟩
instance:Callable AC 225:=⟨Tryz.call225⟩
instance:Mixed AC:=⟨by kernel_rfl⟩
end Go.Proofs.YtammjnjpheobaaaGreat
namespace Go.Spc
abbrev Ext:=Nat×Nat
def fok (n:Nat) (l:List Ext):Prop:=(∀e∈l,1≤e.2∧e.1+e.2≤n)∧l.Pairwise fun a b=>a.1+a.2<b.1
def inF (l:List Ext) (x:Nat):Prop:=∃e∈l,e.1≤x∧x<e.1+e.2
@[simp] theorem aWk (x:Nat):inF [] x↔False:=by simp[inF]
@[simp] theorem aDk (e:Ext) (l:List Ext) (x:Nat):inF (e::l) x↔(e.1≤x∧x<e.1+e.2)∨inF l x:=by simp[inF]
@[simp] theorem aNs (a b:List Ext) (x:Nat):inF (a++b) x↔inF a x∨inF b x:=by
 simp only[inF,List.mem_append]
 constructor
 ·rintro⟨e,h|h,h2⟩
  ·exact .inl ⟨e,h,h2⟩
  ·exact .inr ⟨e,h,h2⟩
 ·rintro(⟨e,h,h2⟩|⟨e,h,h2⟩)
  ·exact⟨e,.inl h,h2⟩
  ·exact⟨e,.inr h,h2⟩
theorem aCu {n:Nat} {a b:List Ext}:fok n (a++b)↔fok n a∧fok n b∧∀x∈a,∀y∈b,x.1+x.2<y.1:=by
 unfold fok
 rw[List.pairwise_append]
 constructor
 ·rintro⟨h1,h2,h3,h4⟩
  exact⟨⟨fun e he=>h1 e (List.mem_append_left _ he),h2⟩,⟨fun e he=>h1 e (List.mem_append_right _ he),h3⟩,h4⟩
 ·rintro⟨⟨h1,h2⟩,⟨h3,h4⟩,h5⟩
  refine⟨fun e he=> ?_,h2,h4,h5⟩
  rcases List.mem_append.1 he with h|h
  ·exact h1 e h
  ·exact h3 e h
theorem aCl {n:Nat} {e:Ext} {b:List Ext}:fok n (e::b)↔(1≤e.2∧e.1+e.2≤n)∧fok n b∧∀y∈b,e.1+e.2<y.1:=by
 unfold fok
 rw[List.pairwise_cons]
 simp only[List.mem_cons,forall_eq_or_imp]
 constructor
 ·rintro⟨⟨h1,h2⟩,h3,h4⟩
  exact⟨h1,⟨h2,h4⟩,h3⟩
 ·rintro⟨h1,⟨h2,h4⟩,h3⟩
  exact⟨⟨h1,h2⟩,h3,h4⟩
theorem bCu (n:Nat):fok n []:=⟨(by simp),List.Pairwise.nil⟩
theorem bKg {n:Nat} (first:Nat):∀(l:List Ext),fok n l→∃A B,l=A++B∧(∀e∈A,e.1+e.2≤first)∧∀e∈B,first<e.1+e.2
 |[],_=>⟨[],[],rfl,by simp,by simp⟩
 |e::l,h=>by
  obtain⟨h1,h2,h3⟩:=aCl.1 h
  by_cases he:first<e.1+e.2
  ·refine⟨[],e::l,rfl,by simp,?_⟩
   intro y hy
   rcases List.mem_cons.1 hy with rfl|hy
   ·exact he
   ·have:=h3 y hy
    have:=h2.1 y hy
    omega
  ·obtain⟨A,B,rfl,hA,hB⟩:=bKg first l h2
   refine⟨e::A,B,rfl,?_,hB⟩
   intro y hy
   rcases List.mem_cons.1 hy with rfl|hy
   ·omega
   ·exact hA y hy
theorem aWl {first m:Nat} {e:Ext} {B:List Ext} (h1:first<e.1+e.2) (he:1≤e.2) (hd:∀x,first≤x→x<first+m→¬inF (e::B) x) (hm:1≤m):first+m≤e.1:=by
 by_cases hh:first+m≤e.1
 ·exact hh
 ·exfalso
  by_cases h2:e.1≤first
  ·exact hd first (Nat.le_refl _) (by omega) ((aDk ..).2 (.inl ⟨h2,h1⟩))
  ·exact hd e.1 (by omega) (by omega) ((aDk ..).2 (.inl ⟨Nat.le_refl _,by omega⟩))
def aBb (l:List Ext):Nat:=(l.map (·.2)).sum
@[simp] theorem bCv (a b:List Ext):aBb (a++b)=aBb a+aBb b:=by simp[aBb]
@[simp] theorem aJa (e:Ext) (b:List Ext):aBb (e::b)=e.2+aBb b:=by simp[aBb]
@[simp] theorem total_nil:aBb []=0:=rfl
theorem aTk (m:Nat):∀(l:List Ext),(∀e∈l,e.2<m)∨∃A e B,l=A++e::B∧m≤e.2∧∀x∈A,x.2<m
 |[]=> .inl (by simp)
 |e::l=>by
  by_cases he:m≤e.2
  ·exact .inr ⟨[],e,l,rfl,he,by simp⟩
  ·rcases aTk m l with h|⟨A,x,B,rfl,h1,h2⟩
   ·left
    intro y hy
    rcases List.mem_cons.1 hy with rfl|hy
    ·omega
    ·exact h y hy
   ·right
    refine⟨e::A,x,B,rfl,h1,fun y hy=> ?_⟩
    rcases List.mem_cons.1 hy with rfl|hy
    ·omega
    ·exact h2 y hy
def big:List Ext→Nat
 |[]=>0
 |e::l=>max e.2 (big l)
theorem aWm (a b:List Ext):big (a++b)=max (big a) (big b):=by
 induction a with
 |nil=>simp[big]
 |cons e a ih=>simp only[List.cons_append,big,ih];omega
theorem bCw:∀{l:List Ext} {e:Ext},e∈l→e.2≤big l
 |x::l,e,h=>by
  rcases List.mem_cons.1 h with rfl|h
  ·simp only[big];omega
  ·have:=bCw h;simp only[big];omega
theorem bCx:∀{l:List Ext},0<big l→∃e∈l,e.2=big l
 |x::l,h=>by
  simp only[big] at h⊢
  by_cases hh:big l≤x.2
  ·exact⟨x,List.mem_cons_self,by omega⟩
  ·obtain⟨e,he,h2⟩:=bCx (l:=l) (by omega)
   exact⟨e,List.mem_cons_of_mem _ he,by omega⟩
end Go.Spc
namespace Go.Proofs.YtammjnjpheobaaaGreat
open Go.SL Go.Spc
def aAe:List Ext→List Value
 |[]=>[]
 |e::l=> .int .i64 (e.1:Int):: .int .i64 (e.2:Int)::aAe l
@[simp] theorem aCe (l:List Ext):(aAe l).length=l.length*2:=by
 induction l with
 |nil=>rfl
 |cons e l ih=>simp only[aAe,AL,ih];omega
@[simp] theorem aGq (a b:List Ext):aAe (a++b)=aAe a++aAe b:=by
 induction a with
 |nil=>rfl
 |cons e a ih=>simp[aAe,ih]
theorem aFo (l:List Ext):(aAe l).all Value.oneCell'=true:=by
 induction l with
 |nil=>rfl
 |cons e l ih=>simpa[aAe,Value.oneCell'] using ih
theorem aFt {a c vs:List Value} {o:Nat} (ho:a.length=o) (h:vs.length≤c.length):∃y,aFi (a++c) o vs=a++(vs++y)∧vs.length+y.length=c.length∧y=c.drop vs.length:=by
 subst ho
 refine⟨c.drop vs.length,?_,by simp;omega,rfl⟩
 rw[aFs _ _ _ (by simp;omega)]
 simp
theorem Vec.mk' {E sz b cap m:Nat} {cs xs rest:List Value} (hcs:cs=xs++rest) (h1:xs.length=m*sz) (h2:cap*sz≤cs.length) (h3:m≤cap) (h4:cap≤maxLen):Vec E sz (some ⟨b,0,none⟩) m cap xs [(b,row cs E)]:=by
 subst hcs
 exact⟨h1,.inr ⟨b,rest,rfl,rfl,by simpa using h2,h3,h4⟩⟩
theorem aWn {a c r:List Value} {o m:Nat} (ho:a.length=o) (h:c.length=m):((a++(c++r)).drop o).take m=c:=by
 subst ho h
 simp
theorem aMv {a r:List Value} {m:Nat} (h:a.length=m):((a++r).drop 0).take m=a:=by
 subst h
 simp
theorem bLo (p:Option Addr) (cap:Nat) (A B:List Ext) (x:Ext) (c:aAc) (i n:Nat) (hi:A.length=i) (hn:n=i+1+B.length) (hm:n≤1000000) (hV:Vec 126 2 p n cap (aAe (A++[x]++B)) c):
  Ct AC 161 [.slice p n cap,.int .i64 (i:Int),.int .i64 ((i:Int)+1),.slice none 0 0] [c] fun v H'=>
   ∃p' cap' c',v= .slice p' (i+B.length) cap'∧Vec 126 2 p' (i+B.length) cap' (aAe (A++B)) c'∧H'=[c']:=by
 obtain⟨hxl,hV⟩:=hV
 rcases hV with⟨_,h0,_⟩|⟨b,rest,rfl,rfl,hrl,hmc,hcm⟩
 ·omega
 simp only[aGq,AR] at hxl hrl⊢
 have hxx:(aAe [x]).length=2:=rfl
 have hA2:(aAe A).length=i*2:=by rw[aCe,hi]
 have hB2:(aAe B).length=B.length*2:=aCe B
 have hlen:cap*2≤(aAe A++(aAe [x]++(aAe B++rest))).length:=by
  simp only[AF] at hrl⊢;omega
 have e1:((i:Int)+1).toNat=i+1:=by omega
 have hcm':=hcm
 simp only[maxLen] at hcm'
 generalize aAe [x]=X at*
 have hall:=aFo B
 by_cases hB:B=[]
 ·subst hB
  simp only[AU,B6,aAe,AB] at hn hlen hB2⊢
  subst hn
  obtain⟨y,hs1,hy,_⟩:=aFt (vs:=aEn (i+1-i) [.int .i64 0,.int .i64 0]) (c:=X++rest) hA2 (by rw[aCi];simp only[AF,AL,AU];omega)
  have hl2:i*2+(i+1-i)*2≤(aAe A++(X++rest)).length:=by simp only[AF];omega
  refine Ct.intro Tryz.func161 rfl Tryz.ntmps161 (nle rfl) fun w0=> ?_;dsimp only[aAa,AD]
  repeat(first|(refine st ?_;intros)|refine G.draw [] (h:= ?_))
  (refine Dn.post (Hr:=[[(b,row (aAe A++(aEn (i+1-i) [.int .i64 0,.int .i64 0]++y)) 126)]]) Tryz.results161 (hR:= ?_);refine⟨some ⟨b,0,none⟩,cap,_,rfl,?_,rfl⟩)
  refine Vec.mk' (rest:=aEn (i+1-i) [.int .i64 0,.int .i64 0]++y) (by simp) (by simpa using hA2) ?_ (by omega) hcm
  simp only[AF] at hlen hy⊢
  omega
 ·have hB1:0<B.length:=List.length_pos_iff.2 hB
  have hBn:B.length=n-(i+1):=by omega
  have e2:((i:Int)+((0:Nat):Int)+((n-(i+1):Nat):Int)).toNat=n-1:=by omega
  have e3:((i:Int)+((0:Nat):Int)).toNat=i:=by omega
  have e4:Nat.min (n-(i+1)) (n-1-i)=n-(i+1):=C0 (by omega)
  have e5:(aAe B).length=(n-(i+1))*2:=by omega
  have hX1:(aAe A++X).length=(i+1)*2:=by simp only[AF];omega
  have hd:((aAe A++(X++(aAe B++rest))).drop ((i+1)*2)).take ((n-(i+1))*2)=aAe B:=by
   have:=aWn (a:=aAe A++X) (c:=aAe B) (r:=rest) hX1 e5
   rwa[AR] at this
  obtain⟨y,hs1,hy,_⟩:=aFt (vs:=aAe B) (c:=X++(aAe B++rest)) hA2 (by simp only[AF];omega)
  have hAB:(aAe A++aAe B).length=(n-1)*2:=by simp only[AF];omega
  obtain⟨z,hs2,hz,_⟩:=aFt (vs:=aEn (n-(n-1)) [.int .i64 0,.int .i64 0]) (c:=y) hAB (by rw[aCi];simp only[AF,AL,AU] at hy⊢;omega)
  rw[AR,AR] at hs2
  have hl1:i*2+(n-(i+1))*2≤(aAe A++(X++(aAe B++rest))).length:=by simp only[AF] at hy⊢;omega
  have hl2:(n-1)*2+(n-(n-1))*2≤(aAe A++(aAe B++y)).length:=by simp only[AF] at hy hlen⊢;omega
  have hn1:i+B.length=n-1:=by omega
  rw[hn1]
  refine Ct.intro Tryz.func161 rfl Tryz.ntmps161 (nle rfl) fun w0=> ?_;dsimp only[aAa,AD]
  repeat(first|(refine st ?_;intros)|refine G.draw [] (h:= ?_))
  (refine Dn.post (Hr:=[[(b,row (aAe A++(aAe B++(aEn (n-(n-1)) [.int .i64 0,.int .i64 0]++z))) 126)]]) Tryz.results161 (hR:= ?_);refine⟨some ⟨b,0,none⟩,cap,_,rfl,?_,rfl⟩)
  refine Vec.mk' (rest:=aEn (n-(n-1)) [.int .i64 0,.int .i64 0]++z) (by simp) hAB ?_ (by omega) hcm
  simp only[AF] at hlen hy hz⊢
  omega
theorem bLp (p:Option Addr) (cap:Nat) (A B Xs:List Ext) (e:Ext) (c:aAc) (i j n:Nat) (hi:A.length=i) (hj:j=i+Xs.length) (hx1:1≤Xs.length) (hx2:Xs.length≤2) (hn:n=j+B.length) (hm:n≤1000000) (bv cv:Nat) (restv:List Value) (jj:Int) (hjj:jj=(j:Int))
  (hV:Vec 126 2 p n cap (aAe (A++Xs++B)) c):
  Ct AC 161 [.slice p n cap,.int .i64 (i:Int),.int .i64 jj,.slice (some ⟨bv,0,none⟩) 1 cv] [c,[(bv,row (aAe [e]++restv) 126)]] fun v H'=>
   ∃p' cap' c',v= .slice p' (i+1+B.length) cap'∧Vec 126 2 p' (i+1+B.length) cap' (aAe (A++[e]++B)) c'∧H'=[c']:=by
 subst hjj
 obtain⟨hxl,hV⟩:=hV
 rcases hV with⟨_,h0,_⟩|⟨b,rest,rfl,rfl,hrl,hmc,hcm⟩
 ·omega
 simp only[aGq,AR] at hxl hrl⊢
 have hxx:(aAe Xs).length=(j-i)*2:=by rw[aCe];omega
 have hee:(aAe [e]).length=2:=rfl
 have hA2:(aAe A).length=i*2:=by rw[aCe,hi]
 have hB2:(aAe B).length=B.length*2:=aCe B
 have hlen:cap*2≤(aAe A++(aAe Xs++(aAe B++rest))).length:=by
  simp only[AF] at hrl⊢;omega
 have hij:i+1≤j∧j≤i+2:=by omega
 clear hx1 hx2 hj hi
 have hcm':=hcm
 simp only[maxLen] at hcm'
 have hae:=aFo [e]
 have hall:=aFo B
 generalize aAe Xs=X at*
 generalize aAe [e]=V at*
 have hd0:((V++restv).drop 0).take (1*2)=V:=aMv (by omega)
 have hv2:V.length=1*2:=by omega
 obtain⟨y,hs1,hy,hyd⟩:=aFt (vs:=V) (c:=X++(aAe B++rest)) hA2 (by simp only[AF];omega)
 have hl1:i*2+1*2≤(aAe A++(X++(aAe B++rest))).length:=by simp only[AF] at hy⊢;omega
 by_cases hB:B=[]
 ·subst hB
  simp only[AU,B6,aAe,AB] at hn hlen hB2 hs1 hl1 hy⊢
  obtain rfl:=hn.symm
  by_cases hj2:j=i+1
  ·subst hj2
   refine Ct.intro Tryz.func161 rfl Tryz.ntmps161 (nle rfl) fun w0=> ?_;dsimp only[aAa,AD]
   repeat(first|(refine st ?_;intros)|refine G.draw [] (h:= ?_))
   (refine Dn.post (Hr:=[[(b,row (aAe A++(V++y)) 126)]]) Tryz.results161 (hR:= ?_);refine⟨some ⟨b,0,none⟩,cap,_,rfl,?_,rfl⟩)
   refine Vec.mk' (rest:=y) (by simp) (by simp only[AQ,AF];omega) ?_ (by omega) hcm
   simp only[AF] at hlen hy⊢
   omega
  ·have hAV:(aAe A++V).length=(i+1)*2:=by simp only[AF];omega
   obtain⟨z,hs2,hz,_⟩:=aFt (vs:=aEn (j-(i+1)) [.int .i64 0,.int .i64 0]) (c:=y) hAV (by rw[aCi];simp only[AF,AL,AU] at hy⊢;omega)
   rw[AR,AR] at hs2
   have hl2:(i+1)*2+(j-(i+1))*2≤(aAe A++(V++y)).length:=by simp only[AF] at hy hlen⊢;omega
   refine Ct.intro Tryz.func161 rfl Tryz.ntmps161 (nle rfl) fun w0=> ?_;dsimp only[aAa,AD]
   repeat(first|(refine st ?_;intros)|refine G.draw [] (h:= ?_))
   (refine Dn.post (Hr:=[[(b,row (aAe A++(V++(aEn (j-(i+1)) [.int .i64 0,.int .i64 0]++z))) 126)]]) Tryz.results161 (hR:= ?_);refine⟨some ⟨b,0,none⟩,cap,_,rfl,?_,rfl⟩)
   refine Vec.mk' (rest:=aEn (j-(i+1)) [.int .i64 0,.int .i64 0]++z) (by simp) (by simp only[AQ,AF];omega) ?_ (by omega) hcm
   simp only[AF] at hlen hy hz⊢
   omega
 ·have hB1:0<B.length:=List.length_pos_iff.2 hB
  have hBn:B.length=n-j:=by omega
  have e2:((i:Int)+((1:Nat):Int)+((n-j:Nat):Int)).toNat=i+1+(n-j):=by omega
  have e3:((i:Int)+((1:Nat):Int)).toNat=i+1:=by omega
  have e4:Nat.min 1 (i+1+(n-j)-i)=1:=C0 (by omega)
  have e5:Nat.min (n-j) (i+1+(n-j)-(i+1))=n-j:=C0 (by omega)
  have e6:(aAe B).length=(n-j)*2:=by omega
  have hAV:(aAe A++V).length=(i+1)*2:=by simp only[AF];omega
  have hyB:y=X.drop 2++(aAe B++rest):=by
   rw[hyd,hee,CX (by omega)]
  have hX1:(aAe A++(V++X.drop 2)).length=j*2:=by simp only[AF,CE];omega
  have hd:((aAe A++(V++y)).drop (j*2)).take ((n-j)*2)=aAe B:=by
   have:=aWn (a:=aAe A++(V++X.drop 2)) (c:=aAe B) (r:=rest) hX1 e6
   rw[hyB]
   simpa only[AR] using this
  obtain⟨z,hs2,hz,_⟩:=aFt (vs:=aAe B) (c:=y) hAV (by rw[hyB];simp only[AF];omega)
  rw[AR,AR] at hs2
  have hl2:(i+1)*2+(n-j)*2≤(aAe A++(V++y)).length:=by rw[hyB];simp only[AF,CE] at hlen⊢;omega
  have hn1:i+1+B.length=i+1+(n-j):=by omega
  have hcl:cap*2≤(aAe A++(V++(aAe B++z))).length:=by
   simp only[AF] at hlen hy hz⊢;omega
  rw[hn1]
  by_cases hj2:j=i+1
  ·refine Ct.intro Tryz.func161 rfl Tryz.ntmps161 (nle rfl) fun w0=> ?_;dsimp only[aAa,AD]
   repeat(first|(refine st ?_;intros)|refine G.draw [] (h:= ?_))
   (refine Dn.post (Hr:=[[(b,row (aAe A++(V++(aAe B++z))) 126)]]) Tryz.results161 (hR:= ?_);refine⟨some ⟨b,0,none⟩,cap,_,rfl,?_,rfl⟩)
   exact Vec.mk' (rest:=z) (by simp) (by simp only[AF];omega) hcl (by omega) hcm
  ·have hABV:(aAe A++(V++aAe B)).length=(i+1+(n-j))*2:=by simp only[AF];omega
   obtain⟨u,hs3,hu,_⟩:=aFt (vs:=aEn (n-(i+1+(n-j))) [.int .i64 0,.int .i64 0]) (c:=z) hABV (by rw[aCi];simp only[AF,AL,AU] at hy hz⊢;omega)
   simp only[AR] at hs3
   have hl3:(i+1+(n-j))*2+(n-(i+1+(n-j)))*2≤(aAe A++(V++(aAe B++z))).length:=by omega
   refine Ct.intro Tryz.func161 rfl Tryz.ntmps161 (nle rfl) fun w0=> ?_;dsimp only[aAa,AD]
   repeat(first|(refine st ?_;intros)|refine G.draw [] (h:= ?_))
   (refine Dn.post (Hr:=[[(b,row (aAe A++(V++(aAe B++(aEn (n-(i+1+(n-j))) [.int .i64 0,.int .i64 0]++u)))) 126)]]) Tryz.results161 (hR:= ?_);refine⟨some ⟨b,0,none⟩,cap,_,rfl,?_,rfl⟩)
   refine Vec.mk' (rest:=aEn (n-(i+1+(n-j))) [.int .i64 0,.int .i64 0]++u) (by simp) (by simp only[AF];omega) ?_ (by omega) hcm
   simp only[AF] at hcl hu⊢
   omega
theorem aWo {w:World} {w0:World} {S:List Nat} {H:Hp} (hst:St w0 S w H) {ba oa la ca bb ob lb cb:Nat} {csa csb:List Value} {tA tB:TypeId} (ha:Has ba (row csa tA) H) (hb:Has bb (row csb tB) H) (hne:ba≠bb) (hlen:csb.length≠0):
  (callFunc 177 #[.slice (some ⟨ba,oa,none⟩) la ca,.slice (some ⟨bb,ob,none⟩) lb cb]).run AC w= .ok (.value (.bool false)) w:=by
 rw[run_callFunc_extern Tryz.func177 (by kernel_rfl) (by kernel_rfl) (by kernel_rfl) (e:=Extern.SlicesOverlaps.overlaps #[127,127] #[4]) (by kernel_rfl),
  aTi (SliceT.und (P:=AC) (T:=127)) (fun w=>SliceT.size (P:=AC) (T:=127) w) hne (ha.st hst) (hb.st hst) hlen]
 rfl
theorem Ins_ct (p:Option Addr) (cap:Nat) (A B:List Ext) (e:Ext) (c:aAc) (i n:Nat) (hi:A.length=i) (hn:n=i+B.length) (hm:n≤1000000) (bv cv:Nat) (restv:List Value) (hV:Vec 126 2 p n cap (aAe (A++B)) c):
  Ct AC 176 [.slice p n cap,.int .i64 (i:Int),.slice (some ⟨bv,0,none⟩) 1 cv] [c,[(bv,row (aAe [e]++restv) 126)]] fun v H'=>
   ∃p' cap' c',v= .slice p' (i+1+B.length) cap'∧Vec 126 2 p' (i+1+B.length) cap' (aAe (A++[e]++B)) c'∧H'=[c']:=by
 have hVV:=hV
 have hee:(aAe [e]).length=2:=rfl
 have hA2:(aAe A).length=i*2:=by rw[aCe,hi]
 have hB2:(aAe B).length=B.length*2:=aCe B
 have hae:=aFo [e]
 have hall:=aFo B
 have hd0:((aAe [e]++restv).drop 0).take (1*2)=aAe [e]:=aMv (by omega)
 have hv2:(aAe [e]).length=1*2:=by omega
 have hb1:n≤cap:=by
  obtain⟨_,h|⟨b,rest,_,_,_,h,_⟩⟩:=hV
  ·omega
  ·exact h
 by_cases hB:B=[]
 ·subst hB
  simp only[AU,B6,AQ] at hn⊢
  obtain rfl:=hn.symm
  rw[AQ] at hV hVV
  rw[aGq]
  have hlc:(i:Int)≤(i:Int):=Int.le_refl _
  refine Ct.intro Tryz.func176 rfl Tryz.ntmps176 (nle rfl) fun w0=> ?_;dsimp only[aAa,AD]
  repeat(first|(refine st ?_;intros)|refine G.draw [] (h:= ?_))
  rename_i p' cap' c' hV'
  (refine Dn.post (Hr:=[c']) Tryz.results176 (hR:= ?_);exact⟨p',cap',c',rfl,hV',rfl⟩)
 ·have hB1:0<B.length:=List.length_pos_iff.2 hB
  obtain⟨hxl,hV⟩:=hV
  rcases hV with⟨_,h0,_⟩|⟨b,rest,rfl,rfl,hrl,hmc,hcm⟩
  ·omega
  clear hVV
  simp only[aGq,AR] at hxl hrl⊢
  have hlen:cap*2≤(aAe A++(aAe B++rest)).length:=by simp only[AF] at hrl⊢;omega
  have hcm':=hcm
  simp only[maxLen] at hcm'
  generalize hVe:aAe [e]=V at*
  have e5:(aAe B).length=(n-i)*2:=by omega
  have hd:((aAe A++(aAe B++rest)).drop (i*2)).take ((n-i)*2)=aAe B:=aWn hA2 e5
  have hn1:i+1+B.length=n+1:=by omega
  rw[hn1]
  have hAV:(aAe A++V).length=(i+1)*2:=by simp only[AF];omega
  have e6:((i:Int)+((1:Nat):Int)).toNat=i+1:=by omega
  by_cases hroom:n+1≤cap
  ·have e7:((n:Int)+((1:Nat):Int)).toNat=n+1:=by omega
   have e8:Nat.min (n+1-i) (n+1-(i+1))=n-i:=by rw[show n+1-(i+1)=n-i by omega];exact Nat.min_eq_right (by omega)
   have e9:Nat.min 1 (n+1-i)=1:=C0 (by omega)
   have hc1:((aAe A++(aAe B++rest)).take ((i+1)*2)).length=(i+1)*2:=by rw[BK];omega
   obtain⟨y,hs1,hy,_⟩:=aFt (vs:=aAe B) (c:=(aAe A++(aAe B++rest)).drop ((i+1)*2)) hc1 (by rw[CE];omega)
   rw[BT] at hs1
   have hs1':(aAe A++(aAe B++rest)).take ((i+1)*2)=aAe A++(aAe B++rest).take 2:=by
    rw[List.take_append,hA2,A4 (by omega)]
    congr 2;omega
   rw[hs1',AR] at hs1
   have hl1:(i+1)*2+(n-i)*2≤(aAe A++(aAe B++rest)).length:=by omega
   have ht2:((aAe B++rest).take 2).length=2:=by rw[BK,AF];omega
   have hyl:cap*2≤(aAe A++((aAe B++rest).take 2++(aAe B++y))).length:=by
    simp only[AF,CE] at hy hlen⊢;omega
   obtain⟨z,hs2,hz,hzd⟩:=aFt (vs:=V) (c:=(aAe B++rest).take 2++(aAe B++y)) hA2 (by simp only[AF];omega)
   have hzd':z=aAe B++y:=by
    rw[hzd,hee,CX (by omega),List.drop_of_length_le (by omega),AB]
   subst hzd'
   have hl2:i*2+1*2≤(aAe A++((aAe B++rest).take 2++(aAe B++y))).length:=by omega
   have hdB:((aAe A++(aAe B++rest)).drop (i*2)).take ((n-i)*2)=aAe B:=hd
   refine Ct.intro Tryz.func176 rfl Tryz.ntmps176 (nle rfl) fun w0=> ?_;dsimp only[aAa,AD]
   repeat(first|(refine st ?_;intros)|refine G.draw [] (h:= ?_))
   apply R1.nodup
   ·exact rfl
   intro hnd
   have hne:bv≠b:=by
    intro h;subst h
    simp[aEl] at hnd
   apply R.callE
   ·exact rfl
   ·intro _ _ w hst
    exact aWo (hst) (csa:=V++restv) (csb:=aAe A++(aAe B++rest)) (by repeat(first|exact Has.here|apply Has.there)) (by repeat(first|exact Has.here|apply Has.there)) hne (by omega)
   ·exact rfl
   ·exact nle rfl
   repeat(first|(refine st ?_;intros)|refine G.draw [] (h:= ?_))
   (refine Dn.post (Hr:=[[(b,row (aAe A++(V++(aAe B++y))) 126)]]) Tryz.results176 (hR:= ?_);refine⟨some ⟨b,0,none⟩,cap,_,rfl,?_,rfl⟩)
   refine Vec.mk' (rest:=y) (by simp) (by simp only[AF];omega) ?_ (by omega) hcm
   simp only[AF] at hyl⊢
   omega
  ·have e7:(n:Int)+((1:Nat):Int)-(i:Int)=((n+1-i:Nat):Int):=by omega
   have e8:Nat.min (n-i) (i+(n+1-i)-(i+1))=n-i:=C0 (by omega)
   have e9:Nat.min 1 (i+(n+1-i)-i)=1:=C0 (by omega)
   have e10:(aAe A++(aAe B++rest)).take (i*2)=aAe A:=by
    rw[CK (by omega),A4 (by omega)]
   have hzl:(aEn (n+1-i) [Value.int .i64 0,Value.int .i64 0]).length=(n+1-i)*2:=by rw[aCi];rfl
   have hl0:i*2≤(aAe A++(aAe B++rest)).length:=by omega
   refine Ct.intro Tryz.func176 rfl Tryz.ntmps176 (nle rfl) fun w0=> ?_;dsimp only[aAa,AD]
   repeat(first|(refine st ?_;intros)|refine G.draw [] (h:= ?_))
   rename_i b' cap' rest' hr1 hr2 hr3
   rw[e10] at hr1⊢
   obtain⟨y,hs1,hy,_⟩:=aFt (vs:=V) (c:=aEn (n+1-i) [.int .i64 0,.int .i64 0]++rest') hA2 (by simp only[AF];omega)
   rw[←AR] at hs1
   have hl1:i*2+1*2≤(aAe A++aEn (n+1-i) [.int .i64 0,.int .i64 0]++rest').length:=by simp only[AF];omega
   obtain⟨z,hs2,hz,_⟩:=aFt (vs:=aAe B) (c:=y) hAV (by simp only[AF] at hy⊢;omega)
   simp only[AR] at hs2
   have hl2:(i+1)*2+(n-i)*2≤(aAe A++(V++y)).length:=by simp only[AF] at hy⊢;omega
   repeat(first|(refine st ?_;intros)|refine G.draw [] (h:= ?_))
   (refine Dn.post (Hr:=[[(b',row (aAe A++(V++(aAe B++z))) 126)]]) Tryz.results176 (hR:= ?_);refine⟨some ⟨b',0,none⟩,cap',_,?_,?_,rfl⟩)
   ·show Value.slice (some ⟨b',0,none⟩) (i+(n+1-i)) cap'=_
    rw[show i+(n+1-i)=n+1 by omega]
   refine Vec.mk' (rest:=z) (by simp) (by simp only[AF];omega) ?_ (by omega) hr3
   simp only[AF] at hr1 hy hz⊢
   omega
structure Sp where
 n:Nat
 free:List Ext
def aAp (n:Nat) (p:Option Addr) (m cap:Nat):List Value:=[.int .i64 0,.int .i64 (n:Int),.slice p m cap]
def aEr (bs:Nat) (σ:Sp) (c:aAc):Prop:=
 ∃p cap vc,c=(bs,row (aAp σ.n p σ.free.length cap) 129)::vc∧Vec 126 2 p σ.free.length cap (aAe σ.free) vc∧fok σ.n σ.free∧σ.n≤1000000
theorem aDo {n:Nat}:∀{l:List Ext} {k:Nat},fok n l→(∀e∈l,k≤e.1)→k≤n→l.length≤n-k
 |[],_,_,_,_=>by simp
 |e::l,k,h,hk,hn=>by
  obtain⟨h1,h2,h3⟩:=aCl.1 h
  have:=aDo (k:=e.1+e.2) h2 (fun y hy=>EB (h3 y hy)) h1.2
  have:=hk e AI
  simp only[AL]
  omega
theorem aEo (f b:Nat) (h:f+b≤1000000):CtQ AC 160 [.agg #[.int .i64 (f:Int),.int .i64 (b:Int)]] [] (.int .i64 ((f+b:Nat):Int)):=by
 have e:(f:Int)+(b:Int)=((f+b:Nat):Int):=by omega
 have ew:AH .i64 ((f:Int)+(b:Int))=((f+b:Nat):Int):=by rw[e];exact aAd (by omega)
 refine Ct.intro Tryz.func160 rfl Tryz.ntmps160 (nle rfl) fun w0=> ?_;dsimp only[aAa,AD]
 repeat(refine st ?_;intros)
 (refine Dn.post (Hr:=[]) Tryz.results160 (hR:= ?_);exact⟨rfl,rfl⟩)
theorem aDq (bs:Nat) (σ:Sp) (c:aAc) (h:aEr bs σ c) (first n:Nat) (hn:1≤n) (hf:first+n≤σ.n):
  CtQ AC 158 [.pointer (some ⟨bs,0,none⟩),.int .i64 (first:Int),.int .i64 (n:Int)] [c] (.bool true):=by
 obtain⟨p,cap,vc,rfl,hV,hfo,hnn⟩:=h
 have hE:=aEo 0 σ.n (by omega)
 rw[BR] at hE
 refine CtQ.conv (H2:=[[(bs,row (aAp σ.n p σ.free.length cap) 129)],vc]) ?_ (by simp)
 unfold aAp
 refine Ct.intro Tryz.func158 rfl Tryz.ntmps158 (nle rfl) fun w0=> ?_;dsimp only[aAa,AD]
 repeat(first|(refine st ?_;intros)|(refine cq hE ?_))
 (refine Dn.post (Hr:=[[(bs,row [.int .i64 0,.int .i64 (σ.n:Int),.slice p σ.free.length cap] 129)],vc]) Tryz.results158 (hR:= ?_);refine⟨?_,rfl⟩)
 first|rfl|(rw[aBq (by omega)];rfl)
theorem aTl {A B:List Ext} {e:Ext} {rest:List Value} {i:Nat} (hi:A.length=i):(((aAe (A++e::B)++rest).drop (i*2)).take 2=[.int .i64 (e.1:Int),.int .i64 (e.2:Int)])∧
  (aAe (A++e::B)++rest)[i*2]? =some (.int .i64 (e.1:Int))∧(aAe (A++e::B)++rest)[i*2+1]? =some (.int .i64 (e.2:Int)):=by
 have hA:(aAe A).length=i*2:=by rw[aCe,hi]
 rw[aGq,AR]
 refine⟨?_,?_,?_⟩
 ·rw[←hA];simp[aAe]
 ·rw[BB (by omega),hA,Nat.sub_self];rfl
 ·rw[BB (by omega),hA,show i*2+1-i*2=1 by omega];rfl
theorem aMw {l:List Ext} {i:Nat} (h:i<l.length):∃A e B,l=A++e::B∧A.length=i:=by
 refine⟨l.take i,l[i],l.drop (i+1),?_,by simp;omega⟩
 rw[←List.drop_eq_getElem_cons h,BT]
theorem bAp (bs b1 b2 vb:Nat) (n cap first:Nat) (free:List Ext) (rest:List Value) (hfo:fok n free) (hn:n≤1000000) (k:Nat) (hk:k<free.length) (A B:List Ext) (e:Ext) (hs:free=A++e::B) (hi:A.length=k):
  CtQ AC 175 [.int .i64 (k:Int),.pointer (some ⟨b1,0,none⟩),.pointer (some ⟨b2,0,none⟩)]
   [[(bs,row (aAp n (some ⟨vb,0,none⟩) free.length cap) 129)],[(vb,row (aAe free++rest) 126)],[(b1,row [.pointer (some ⟨bs,0,none⟩)] 80)],[(b2,row [.int .i64 (first:Int)] 3)]] (.bool (dec ((first:Int)<((e.1+e.2:Nat):Int)))):=by
 subst hs
 have he:=(aCu.1 hfo).2.1
 have he2:=(aCl.1 he).1
 have hE:=aEo e.1 e.2 (by omega)
 obtain⟨g1,g2,g3⟩:=aTl (rest:=rest) (B:=B) (e:=e) hi
 unfold aAp
 generalize aAe (A++e::B)++rest=cells at*
 refine Ct.intro Tryz.func175 rfl Tryz.ntmps175 (nle rfl) fun w0=> ?_;dsimp only[aAa,AD]
 repeat(first|(refine st ?_;intros)|refine G.draw (id:=1) [(7,.quiet)] (h:= ?_)|(refine cq hE ?_))
 (refine Dn.post (Hr:=[[(bs,row [.int .i64 0,.int .i64 (n:Int),.slice (some ⟨vb,0,none⟩) (A++e::B).length cap] 129)],[(vb,row cells 126)],[(b1,row [.pointer (some ⟨bs,0,none⟩)] 80)],[(b2,row [.int .i64 (first:Int)] 3)]]) Tryz.results175 (hR:= ?_);exact⟨rfl,rfl⟩)
theorem bCy (bs b1 b2:Nat) (n cap first:Nat) (p:Option Addr) (vc:aAc) (A B:List Ext) (hfo:fok n (A++B)) (hn:n≤1000000) (hV:Vec 126 2 p (A++B).length cap (aAe (A++B)) vc) (m:Nat) (hm:m=(A++B).length) (hA:∀e∈A,e.1+e.2≤first) (hB:∀e∈B,first<e.1+e.2):
  CtQ AC 174 [.int .i64 (m:Int),.func (.func 175) #[] #[.pointer (some ⟨b1,0,none⟩),.pointer (some ⟨b2,0,none⟩)]]
   [[(bs,row (aAp n p (A++B).length cap) 129)],vc,[(b1,row [.pointer (some ⟨bs,0,none⟩)] 80)],[(b2,row [.int .i64 (first:Int)] 3)]] (.int .i64 (A.length:Int)):=by
 have hlen:=aDo hfo (k:=0) (by omega) (by omega)
 have hml:m≤1000000:=by omega
 subst hm
 refine Ct.intro Tryz.func174 rfl Tryz.ntmps174 (nle rfl) fun w0=> ?_;dsimp only[aAa,AD]
 repeat(first|(refine st ?_;intros)|(refine cq hF ?_))
 refine G.loop (X:=Nat×Nat) (fun x=>x.1≤A.length∧A.length≤x.2∧x.2≤(A++B).length) (fun x=>[(6,.int .i64 (x.2:Int)),(5,.int .i64 (x.1:Int)),(1,.func (.func 175) #[] #[.pointer (some ⟨b1,0,none⟩),.pointer (some ⟨b2,0,none⟩)])])
  (fun _=>[[(bs,row (aAp n p (A++B).length cap) 129)],vc,[(b1,row [.pointer (some ⟨bs,0,none⟩)] 80)],[(b2,row [.int .i64 (first:Int)] 3)]]) (fun x=>x.2-x.1) (0,(A++B).length) ⟨Nat.zero_le _,by simp,AG _⟩ (body:= ?_)
 rintro⟨i,j⟩ ⟨hi,hj,hjm⟩
 dsimp only at hi hj hjm⊢
 by_cases hij:i<j
 ·have hsh:((i:Int)+(j:Int)).fdiv (2^min (Int.toNat 1) IntKind.u64.bits)=(((i+j)/2:Nat):Int):=by
   have e0:(2:Int)^min (Int.toNat 1) IntKind.u64.bits=2:=by decide
   rw[e0,Int.fdiv_eq_ediv_of_nonneg _ (by decide)]
   omega
  generalize hh:(i+j)/2=h at hsh
  have hh1:i≤h∧h<j:=by omega
  obtain⟨A',e,B',hs,hA'⟩:=aMw (l:=A++B) (i:=h) (by omega)
  obtain⟨_,h0|⟨vb,rest,hp,hvc,_⟩⟩:=hV
  ·omega
  have hF:=bAp bs b1 b2 vb n cap first (A++B) rest hfo hn h (by omega) A' B' e hs hA'
  rw[←hp,←hvc] at hF
  by_cases hlt:h<A.length
  ·have hm:e∈A:=by
    have h1:(A++B)[h]? =some e:=by rw[hs,BB (by omega)];simp[hA']
    rw[A7 hlt] at h1
    exact AZ h1
   have hle:=hA e hm
   repeat(first|(refine st ?_;intros)|(refine cq hF ?_))
   exact Dn.round (h+1,j) ⟨by omega,by omega,by omega⟩ (by dsimp only;omega)
  ·have hm:e∈B:=by
    have h1:(A++B)[h]? =some e:=by rw[hs,BB (by omega)];simp[hA']
    rw[BB (by omega)] at h1
    exact AZ h1
   have hle:=hB e hm
   repeat(first|(refine st ?_;intros)|(refine cq hF ?_))
   exact Dn.round (i,h) ⟨by omega,by omega,by omega⟩ (by dsimp only;omega)
 ·obtain rfl:i=A.length:=by omega
  repeat(first|(refine st ?_;intros)|(refine cq hF ?_))
  (refine Dn.post (Hr:=[[(bs,row (aAp n p (A++B).length cap) 129)],vc,[(b1,row [.pointer (some ⟨bs,0,none⟩)] 80)],[(b2,row [.int .i64 (first:Int)] 3)]]) Tryz.results174 (hR:= ?_);exact⟨rfl,rfl⟩)
theorem aDr (bs:Nat) (n cap first:Nat) (p:Option Addr) (vc:aAc) (A B:List Ext) (hfo:fok n (A++B)) (hn:n≤1000000) (hV:Vec 126 2 p (A++B).length cap (aAe (A++B)) vc) (hA:∀e∈A,e.1+e.2≤first) (hB:∀e∈B,first<e.1+e.2):
  CtQ AC 159 [.pointer (some ⟨bs,0,none⟩),.int .i64 (first:Int)] [[(bs,row (aAp n p (A++B).length cap) 129)],vc] (.int .i64 (A.length:Int)):=by
 have hS:=fun b1 b2=>bCy bs b1 b2 n cap first p vc A B hfo hn hV (A++B).length rfl hA hB
 unfold aAp at hS⊢
 refine Ct.intro Tryz.func159 rfl Tryz.ntmps159 (nle rfl) fun w0=> ?_;dsimp only[aAa,AD]
 repeat(first|(refine st ?_;intros)|(refine cq hS ?_))
 (refine Dn.post (Hr:=[[(bs,row [.int .i64 0,.int .i64 (n:Int),.slice p (A++B).length cap] 129)],vc]) Tryz.results159 (hR:= ?_);exact⟨rfl,rfl⟩)
theorem aDs (p:Option Addr) (cap:Nat) (A B Xs:List Ext) (e:Ext) (c:aAc) (i n:Nat) (ii jj x1 x2:Int) (hi:A.length=i) (hii:ii=(i:Int)) (hjj:jj=((i+Xs.length:Nat):Int)) (hx:Xs.length≤2) (hn:n=i+Xs.length+B.length) (hm:n≤1000000) (bv cv:Nat) (restv:List Value)
  (h1:x1=(e.1:Int)) (h2:x2=(e.2:Int)) (hV:Vec 126 2 p n cap (aAe (A++Xs++B)) c):
  Ct AC 161 [.slice p n cap,.int .i64 ii,.int .i64 jj,.slice (some ⟨bv,0,none⟩) 1 cv] [c,[(bv,row ([.int .i64 x1,.int .i64 x2]++restv) 126)]] fun v H'=>
   ∃p' cap' c',v= .slice p' (i+1+B.length) cap'∧Vec 126 2 p' (i+1+B.length) cap' (aAe (A++[e]++B)) c'∧H'=[c']:=by
 subst h1 h2
 by_cases hX:Xs=[]
 ·subst hX
  simp only[AU,B6,AQ] at hjj hn hV
  subst hii hjj
  have hI:=Ins_ct p cap A B e c i n hi hn hm bv cv restv hV
  have hb1:n≤cap:=by
   obtain⟨_,h|⟨b,rest,_,_,_,h,_⟩⟩:=hV
   ·omega
   ·exact h
  refine Ct.intro Tryz.func161 rfl Tryz.ntmps161 (nle rfl) fun w0=> ?_;dsimp only[aAa,AD]
  repeat(first|(refine st ?_;intros)|refine G.draw [] (h:= ?_))
  refine R.call (hct:=hI) (h:= ?_)
  rintro _ _ ⟨p',cap',c',rfl,hV',rfl⟩
  try dsimp only[AA,AB]
  repeat(first|(refine st ?_;intros)|refine G.draw [] (h:= ?_))
  (refine Dn.post (Hr:=[c']) Tryz.results161 (hR:= ?_);exact⟨p',cap',c',rfl,hV',rfl⟩)
 ·have hX1:1≤Xs.length:=List.length_pos_iff.2 hX
  subst hii
  exact bLp p cap A B Xs e c i (i+Xs.length) n hi rfl hX1 hx hn hm bv cv restv jj hjj hV
theorem bLq (bs:Nat) (n cap:Nat) (p:Option Addr) (vc:aAc) (A B:List Ext) (e:Ext) (hfo:fok n (A++e::B)) (hn:n≤1000000) (hV:Vec 126 2 p (A++e::B).length cap (aAe (A++e::B)) vc) (m:Nat) (hm1:1≤m) (hm2:m≤e.2):
  Ct AC 154 [.pointer (some ⟨bs,0,none⟩),.int .i64 (e.1:Int),.int .i64 (m:Int)] [[(bs,row (aAp n p (A++e::B).length cap) 129)],vc] fun v H'=>
   v= .int .i64 0∧∃p' cap' vc' free',H'=[[(bs,row (aAp n p' free'.length cap') 129)],vc']∧Vec 126 2 p' free'.length cap' (aAe free') vc'∧free'=A++((if m<e.2 then[(e.1+m,e.2-m)] else[])++B):=by
 have hlen:=aDo hfo (k:=0) (by omega) (by omega)
 obtain⟨hfA,hfB,hAB⟩:=aCu.1 hfo
 obtain⟨he1,hfB2,heB⟩:=aCl.1 hfB
 have hI:=aDq bs ⟨n,A++e::B⟩ _ ⟨p,cap,vc,rfl,hV,hfo,hn⟩ e.1 m hm1 (by dsimp only;omega)
 have hI':CtQ AC 158 [.pointer (some ⟨bs,0,none⟩),.int .i64 (e.1:Int),.int .i64 (m:Int)] [[(bs,row (aAp n p (A++e::B).length cap) 129)],vc] (.bool true):=CtQ.conv hI (by simp)
 clear hI
 have hI:=hI'
 have hBe:=aDr bs n cap e.1 p vc A (e::B) hfo hn hV (fun a ha=>EB (hAB a ha e AI)) (by
  intro y hy
  rcases AM.1 hy with rfl|hy
  ·omega
  ·have:=heB y hy;omega)
 have hE:=aEo e.1 e.2 (by omega)
 have hl:(A++e::B).length=A.length+1+B.length:=by simp;omega
 have hVV:=hV
 obtain⟨_,h0|⟨vb,rest,rfl,rfl,hrl,hmc,hcm⟩⟩:=hV
 ·omega
 obtain⟨g1,g2,g3⟩:=aTl (rest:=rest) (B:=B) (e:=e) (rfl:A.length=A.length)
 unfold aAp at hI hBe⊢
 rw[hl] at hI hBe hVV⊢
 generalize hcell:aAe (A++e::B)++rest=cells at*
 have hV3:Vec 126 2 (some ⟨vb,0,none⟩) (A.length+1+B.length) cap (aAe (A++[e]++B)) [(vb,row cells 126)]:=by
  rw[AR];exact hVV
 by_cases hlt:m<e.2
 ·have hR:=fun bv cv restv x1 x2 h1 h2=>aDs (some ⟨vb,0,none⟩) cap A B [e] (e.1+m,e.2-m) [(vb,row cells 126)] A.length (A.length+1+B.length) (A.length:Int) ((A.length:Int)+1) x1 x2 rfl rfl (by simp) (by simp) (by simp) (by omega) bv cv restv h1 h2 hV3
  have hN:=Vec.nil 126 2
  refine Ct.intro Tryz.func154 rfl Tryz.ntmps154 (nle rfl) fun w0=> ?_;dsimp only[aAa,AD]
  repeat(first|(refine st ?_;intros)|(refine cq hI ?_)|(refine cq hBe ?_)|(refine cq hE ?_))
  rename_i p' cap' c' hV'
  have hV2:Vec 126 2 p' 1 cap' [.int .i64 ((e.1:Int)+(m:Int)),.int .i64 (((e.1+e.2:Nat):Int)-(e.1:Int)-(m:Int))] c':=hV'
  clear hV'
  obtain⟨_,h0|⟨bv,restv,rfl,rfl,hrlv,hmcv,hcmv⟩⟩:=hV2
  ·omega
  repeat(first|(refine st ?_;intros)|(refine cq hI ?_)|(refine cq hBe ?_)|(refine cq hE ?_))
  refine R.call (hct:=hR bv cap' restv ((e.1:Int)+(m:Int)) (((e.1+e.2:Nat):Int)-(e.1:Int)-(m:Int)) (by dsimp only;omega) (by dsimp only;omega)) (h:= ?_)
  rintro _ _ ⟨p2,cap2,c2,rfl,hV2,rfl⟩
  try dsimp only[AA,AB]
  repeat(first|(refine st ?_;intros)|(refine cq hI ?_)|(refine cq hBe ?_)|(refine cq hE ?_))
  (refine Dn.post (Hr:=[[(bs,row [.int .i64 0,.int .i64 (n:Int),.slice p2 (A.length+1+B.length) cap2] 129)],c2]) Tryz.results154 (hR:= ?_);refine⟨rfl,p2,cap2,c2,A++[(e.1+m,e.2-m)]++B,?_,?_,?_⟩)
  ·rw[show(A++[(e.1+m,e.2-m)]++B).length=A.length+1+B.length by simp;omega]
  ·rw[show(A++[(e.1+m,e.2-m)]++B).length=A.length+1+B.length by simp;omega];exact hV2
  ·simp[hlt]
 ·have hR:=bLo (some ⟨vb,0,none⟩) cap A B e [(vb,row cells 126)] A.length (A.length+1+B.length) rfl rfl (by omega) hV3
  refine Ct.intro Tryz.func154 rfl Tryz.ntmps154 (nle rfl) fun w0=> ?_;dsimp only[aAa,AD]
  repeat(first|(refine st ?_;intros)|(refine cq hI ?_)|(refine cq hBe ?_)|(refine cq hE ?_))
  refine R.call (hct:=hR) (h:= ?_)
  rintro _ _ ⟨p2,cap2,c2,rfl,hV2,rfl⟩
  try dsimp only[AA,AB]
  repeat(first|(refine st ?_;intros)|(refine cq hI ?_)|(refine cq hBe ?_)|(refine cq hE ?_))
  (refine Dn.post (Hr:=[[(bs,row [.int .i64 0,.int .i64 (n:Int),.slice p2 (A.length+B.length) cap2] 129)],c2]) Tryz.results154 (hR:= ?_);refine⟨rfl,p2,cap2,c2,A++B,?_,?_,?_⟩)
  ·rw[AF]
  ·rw[AF];exact hV2
  ·simp[hlt]
theorem bHq {n:Nat} {A B:List Ext} {e:Ext} {m:Nat} (h:fok n (A++e::B)) (h1:1≤m) (h2:m≤e.2):fok n (A++((if m<e.2 then[(e.1+m,e.2-m)] else[])++B)):=by
 obtain⟨hA,hB,hAB⟩:=aCu.1 h
 obtain⟨he,hB2,heB⟩:=aCl.1 hB
 split
 ·refine aCu.2 ⟨hA,aCl.2 ⟨⟨by dsimp only;omega,by dsimp only;omega⟩,hB2,fun y hy=> ?_⟩,fun x hx y hy=> ?_⟩
  ·have:=heB y hy;dsimp only;omega
  ·rcases AM.1 hy with rfl|hy
   ·have:=hAB x hx e AI;dsimp only;omega
   ·exact hAB x hx y (AJ _ hy)
 ·rw[AB]
  exact aCu.2 ⟨hA,hB2,fun x hx y hy=>hAB x hx y (AJ _ hy)⟩
theorem bHr {A B:List Ext} {e:Ext} {n m:Nat} (h:fok n (A++e::B)) (h1:1≤m) (h2:m≤e.2) (x:Nat):
  inF (A++((if m<e.2 then[(e.1+m,e.2-m)] else[])++B)) x↔inF (A++e::B) x∧¬(e.1≤x∧x<e.1+m):=by
 obtain⟨hA,hB,hAB⟩:=aCu.1 h
 obtain⟨he,hB2,heB⟩:=aCl.1 hB
 have key1:inF A x→x<e.1:=by
  rintro⟨y,hy,h3,h4⟩
  have:=hAB y hy e AI
  omega
 have key2:inF B x→e.1+e.2<x:=by
  rintro⟨y,hy,h3,h4⟩
  have:=heB y hy
  omega
 by_cases hlt:m<e.2
 ·simp only[hlt,if_true,aNs,aDk,aWk,or_false]
  constructor
  ·rintro(h|h|h)
   ·have:=key1 h;exact⟨.inl h,by omega⟩
   ·exact⟨.inr (.inl (by omega)),by omega⟩
   ·have:=key2 h;exact⟨.inr (.inr h),by omega⟩
  ·rintro⟨h|h|h,h5⟩
   ·exact .inl h
   ·exact .inr (.inl (by omega))
   ·exact .inr (.inr h)
 ·simp only[hlt,if_false,AB,aNs,aDk]
  constructor
  ·rintro(h|h)
   ·have:=key1 h;exact⟨.inl h,by omega⟩
   ·have:=key2 h;exact⟨.inr (.inr h),by omega⟩
  ·rintro⟨h|h|h,h5⟩
   ·exact .inl h
   ·omega
   ·exact .inr h
theorem bAq {A B:List Ext} {e:Ext} {m:Nat} (h2:m≤e.2):aBb (A++((if m<e.2 then[(e.1+m,e.2-m)] else[])++B))+m=aBb (A++e::B):=by
 split<;>simp<;>omega
theorem bHs {A B:List Ext} {e:Ext} {m:Nat}:big (A++e::B)≤big (A++((if m<e.2 then[(e.1+m,e.2-m)] else[])++B))+m:=by
 split<;>simp only[aWm,big,AB]<;>omega
theorem bLr (bs:Nat) (σ:Sp) (c:aAc) (h:aEr bs σ c) (m:Nat) (hm:1≤m) (hb:m≤big σ.free):
  Ct AC 121 [.pointer (some ⟨bs,0,none⟩),.int .i64 (m:Int)] [c] fun v H'=>
   ∃(f:Nat) (c':aAc) (σ':Sp),v= .tuple #[.int .i64 (f:Int),.int .i64 0]∧aEr bs σ' c'∧σ'.n=σ.n∧(∀x,f≤x→x<f+m→inF σ.free x)∧f+m≤σ.n∧
    (∀x,inF σ'.free x↔inF σ.free x∧¬(f≤x∧x<f+m))∧aBb σ'.free+m=aBb σ.free∧big σ.free≤big σ'.free+m∧H'=[c']:=by
 obtain⟨n,free⟩:=σ
 dsimp only at hb
 rcases aTk m free with hno|⟨A,e,B,rfl,hme,hA⟩
 ·exfalso
  obtain⟨e,he,h2⟩:=bCx (l:=free) (by omega)
  have:=hno e he
  omega
 obtain⟨p,cap,vc,rfl,hV,hfo,hn⟩:=h
 dsimp only at hV hfo hn
 have hH:=bLq bs n cap p vc A B e hfo hn hV m hm hme
 refine Ct.conv (H2:=[[(bs,row (aAp n p (A++e::B).length cap) 129)],vc]) (R2:=fun v H'=>v= .tuple #[.int .i64 (e.1:Int),.int .i64 0]∧∃p' cap' vc' free',H'=[[(bs,row (aAp n p' free'.length cap') 129)],vc']∧
  Vec 126 2 p' free'.length cap' (aAe free') vc'∧free'=A++((if m<e.2 then[(e.1+m,e.2-m)] else[])++B)) ?_ (by simp) ?_
 ·have hlen:=aDo hfo (k:=0) (by omega) (by omega)
  have hl:(A++e::B).length=A.length+1+B.length:=by simp;omega
  have hfb:=hfo.1
  obtain⟨_,h0|⟨vb,rest,rfl,rfl,hrl,hmc,hcm⟩⟩:=hV
  ·omega
  generalize hfr:A++e::B=free at*
  unfold aAp at hH⊢
  generalize hcl:aAe free++rest=cells at*
  refine Ct.intro Tryz.func121 rfl Tryz.ntmps121 (nle rfl) fun w0=> ?_;dsimp only[aAa,AD]
  repeat(first|(refine st ?_;intros)|refine G.draw (id:=9) [(6,.eff [1])] (h:= ?_))
  refine G.loop (X:=Nat) (fun i=>i≤A.length) (fun i=>[(17,.int .i64 (i:Int)),(16,.int .i64 (free.length:Int)),(15,.slice (some ⟨vb,0,none⟩) free.length cap),(0,.pointer (some ⟨bs,0,none⟩)),(1,.int .i64 (m:Int))])
   (fun _=>[[(bs,row [.int .i64 0,.int .i64 (n:Int),.slice (some ⟨vb,0,none⟩) free.length cap] 129)],[(vb,row cells 126)]]) (fun i=>A.length-i) 0 (by omega) (body:= ?_)
  intro i hi
  obtain⟨A',x,B',hs,hA'⟩:=aMw (l:=free) (i:=i) (by omega)
  obtain⟨g1,g2,g3⟩:=aTl (rest:=rest) (B:=B') (e:=x) hA'
  rw[←hs,hcl] at g1 g2 g3
  have hx1:free[i]? =some x:=by rw[hs,BB (by omega)];simp[hA']
  have hxn:=hfb x (AZ hx1)
  by_cases hiA:i<A.length
  ·have hxm:x.2<m:=by
    rw[←hfr,A7 hiA] at hx1
    exact hA x (AZ hx1)
   repeat(first|(refine st ?_;intros)|refine G.draw (id:=9) [(6,.eff [1])] (h:= ?_))
   exact Dn.round (i+1) (by omega) (by omega)
  ·obtain rfl:i=A.length:=by omega
   have hxe:x=e:=by
    rw[←hfr] at hx1
    simpa using hx1.symm
   subst hxe
   repeat(first|(refine st ?_;intros)|refine G.draw (id:=9) [(6,.eff [1])] (h:= ?_))
   refine R.callX (hct:=hH) (h:= ?_)
   rintro _ _ ⟨rfl,p',cap',vc',free',rfl,hV',hf'⟩
   try dsimp only[AA,AB]
   refine nx ?_
   repeat(first|(refine st ?_;intros)|refine G.draw (id:=9) [(6,.eff [1])] (h:= ?_))
   (refine Dn.post (Hr:=[[(bs,row [.int .i64 0,.int .i64 (n:Int),.slice p' free'.length cap'] 129)],vc']) Tryz.results121 (hR:= ?_);exact⟨rfl,p',cap',vc',free',rfl,hV',hf'⟩)
 ·rintro v H' ⟨rfl,p',cap',vc',free',rfl,hV',hf'⟩
  refine⟨_,⟨e.1,_,⟨n,free'⟩,rfl,⟨p',cap',vc',rfl,hV',?_,hn⟩,rfl,?_,?_,?_,?_,?_,rfl⟩,by simp⟩
  ·rw[hf'];exact bHq hfo hm hme
  ·intro x h1 h2
   dsimp only
   rw[aNs,aDk]
   exact .inr (.inl (by omega))
  ·have:=hfo.1 e (by simp);dsimp only;omega
  ·intro x;rw[hf'];exact bHr hfo hm hme x
  ·rw[hf'];exact bAq hme
  ·rw[hf'];exact bHs
theorem bCz (bs:Nat) (σ:Sp) (c:aAc) (h:aEr bs σ c) (m:Nat) (hm:1≤m) (hb:big σ.free<m) (hmm:m≤1000000000):
  CtQ AC 121 [.pointer (some ⟨bs,0,none⟩),.int .i64 (m:Int)] [c] (.tuple #[.int .i64 0,.int .i64 5]):=by
 obtain⟨n,free⟩:=σ
 dsimp only at hb
 obtain⟨p,cap,vc,rfl,hV,hfo,hn⟩:=h
 dsimp only at hV hfo hn
 have hlen:=aDo hfo (k:=0) (by omega) (by omega)
 refine CtQ.conv (H2:=[[(bs,row (aAp n p free.length cap) 129)],vc]) ?_ (by simp)
 unfold aAp
 refine Ct.intro Tryz.func121 rfl Tryz.ntmps121 (nle rfl) fun w0=> ?_;dsimp only[aAa,AD]
 repeat(first|(refine st ?_;intros)|refine G.draw (id:=9) [(6,.eff [1])] (h:= ?_))
 refine G.loop (X:=Nat) (fun i=>i≤free.length) (fun i=>[(17,.int .i64 (i:Int)),(16,.int .i64 (free.length:Int)),(15,.slice p free.length cap),(0,.pointer (some ⟨bs,0,none⟩)),(1,.int .i64 (m:Int))])
  (fun _=>[[(bs,row [.int .i64 0,.int .i64 (n:Int),.slice p free.length cap] 129)],vc]) (fun i=>free.length-i) 0 (by omega) (body:= ?_)
 intro i hi
 by_cases hif:i<free.length
 ·obtain⟨A',x,B',hs,hA'⟩:=aMw (l:=free) (i:=i) (by omega)
  obtain⟨_,h0|⟨vb,rest,hp,hvc,hrl,hmc,hcm⟩⟩:=hV
  ·omega
  obtain⟨g1,g2,g3⟩:=aTl (rest:=rest) (B:=B') (e:=x) hA'
  rw[←hs] at g1 g2 g3
  have hx1:free[i]? =some x:=by rw[hs,BB (by omega)];simp[hA']
  have hxn:=hfo.1 x (AZ hx1)
  have hxm:x.2<m:=by
   have:=bCw (AZ hx1)
   omega
  rw[hp,hvc]
  generalize aAe free++rest=cells at*
  repeat(first|(refine st ?_;intros)|refine G.draw (id:=9) [(6,.eff [1])] (h:= ?_))
  exact Dn.round (i+1) (by omega) (by omega)
 ·obtain rfl:i=free.length:=by omega
  repeat(first|(refine st ?_;intros)|refine G.draw (id:=9) [(6,.eff [1])] (h:= ?_))
  (refine Dn.post (Hr:=[[(bs,row [.int .i64 0,.int .i64 (n:Int),.slice p free.length cap] 129)],vc]) Tryz.results121 (hR:= ?_);exact⟨rfl,rfl⟩)
def Gave (n:Nat) (free free':List Ext) (first m:Nat):Prop:=fok n free'∧(∀x,inF free' x↔inF free x∨(first≤x∧x<first+m))∧aBb free'=aBb free+m∧big free≤big free'
section
variable (bs:Nat) (n cap:Nat) (p:Option Addr) (vc:aAc) (first m:Nat) (hn:n≤1000000) (hm:1≤m) (hfm:first+m≤n)
include hn hm hfm
theorem bLs (hfo:fok n (([]:List Ext)++([]:List Ext))) (hA:∀e∈(([]:List Ext):List Ext),e.1+e.2≤first) (hB:∀e∈(([]:List Ext):List Ext),first<e.1+e.2) (hV:Vec 126 2 p (([]:List Ext)++([]:List Ext)).length cap (aAe (([]:List Ext)++([]:List Ext))) vc):
  Ct AC 125 [.pointer (some ⟨bs,0,none⟩),.int .i64 (first:Int),.int .i64 (m:Int)] [[(bs,row (aAp n p (([]:List Ext)++([]:List Ext)).length cap) 129)],vc] fun v H'=>
   v= .int .i64 0∧∃p' cap' vc',H'=[[(bs,row (aAp n p' ([]++[(first,m)]++[]).length cap') 129)],vc']∧Vec 126 2 p' ([]++[(first,m)]++[]).length cap' (aAe ([]++[(first,m)]++[])) vc':=by
 have hI:CtQ AC 158 [.pointer (some ⟨bs,0,none⟩),.int .i64 (first:Int),.int .i64 (m:Int)] [[(bs,row (aAp n p (([]:List Ext)++([]:List Ext)).length cap) 129)],vc] (.bool true):=CtQ.conv (aDq bs ⟨n,(([]:List Ext)++([]:List Ext))⟩ _ ⟨p,cap,vc,rfl,hV,hfo,hn⟩ first m hm hfm) (by simp)
 have hBe:=aDr bs n cap first p vc ([]:List Ext) ([]:List Ext) hfo hn hV hA hB
 have hlen:=aDo hfo (k:=0) (by omega) (by omega)
 have hl:(([]:List Ext)++([]:List Ext)).length=0+0:=by simp<;>omega
 have hlA:(([]:List Ext):List Ext).length=0:=by simp
 have hl2:([]++[(first,m)]++[]).length=0+1+0:=by simp<;>omega
 have hfb:=hfo.1
 have hE1:=aEo first m (by omega)
 rw[hl] at hI hBe hlen⊢
 rw[hlA] at hBe
 rw[hl] at hV
 rw[hl2]
 unfold aAp at hI hBe⊢
 have hR:=fun bv=>aDs p cap [] [] [] (first,m) vc 0 (0+0) ((0:Nat):Int) ((0:Nat):Int) (first:Int) (m:Int) (by simp) (by omega) (by simp only[AU,AL]<;>omega) (by simp) (by simp only[AU,AL]<;>omega) (by omega) bv 1 [] (by first|rfl|omega) (by first|rfl|(dsimp only;omega)) hV
 simp only[AQ] at hR
 refine Ct.intro Tryz.func125 rfl Tryz.ntmps125 (nle rfl) fun w0=> ?_;dsimp only[aAa,AD]
 repeat(first|(refine st ?_;intros)|refine G.draw (id:=7) [(17,.quiet)] (h:= ?_)|refine G.draw [] (h:= ?_)|(refine cq hI ?_)|(refine cq hBe ?_)|(refine cq hE0 ?_)|(refine cq hE1 ?_))
 refine R.call (hct:=hR _) (h:= ?_)
 rintro _ _ ⟨p2,cap2,c2,rfl,hV2,rfl⟩
 try dsimp only[AA,AB]
 repeat(first|(refine st ?_;intros)|refine G.draw (id:=7) [(17,.quiet)] (h:= ?_)|refine G.draw [] (h:= ?_)|(refine cq hI ?_)|(refine cq hBe ?_)|(refine cq hE0 ?_)|(refine cq hE1 ?_))
 (refine Dn.post (Hr:=[[(bs,row [.int .i64 0,.int .i64 (n:Int),.slice p2 (0+1+([]:List Ext).length) cap2] 129)],c2]) Tryz.results125 (hR:= ?_);refine⟨rfl,p2,cap2,c2,?_,?_⟩)
 ·first|rfl|(rw[show([]:List Ext).length=0 by simp])
 ·first|exact hV2|(simpa using hV2)|(rw[show 0+1+0=0+1+([]:List Ext).length by simp];exact hV2)
theorem bLt (B2:List Ext) (e1:Ext) (hb:first+m<e1.1) (hfo:fok n (([]:List Ext)++(e1::B2))) (hA:∀e∈(([]:List Ext):List Ext),e.1+e.2≤first) (hB:∀e∈((e1::B2):List Ext),first<e.1+e.2) (hV:Vec 126 2 p (([]:List Ext)++(e1::B2)).length cap (aAe (([]:List Ext)++(e1::B2))) vc):
  Ct AC 125 [.pointer (some ⟨bs,0,none⟩),.int .i64 (first:Int),.int .i64 (m:Int)] [[(bs,row (aAp n p (([]:List Ext)++(e1::B2)).length cap) 129)],vc] fun v H'=>
   v= .int .i64 0∧∃p' cap' vc',H'=[[(bs,row (aAp n p' ([]++[(first,m)]++(e1::B2)).length cap') 129)],vc']∧Vec 126 2 p' ([]++[(first,m)]++(e1::B2)).length cap' (aAe ([]++[(first,m)]++(e1::B2))) vc':=by
 have hI:CtQ AC 158 [.pointer (some ⟨bs,0,none⟩),.int .i64 (first:Int),.int .i64 (m:Int)] [[(bs,row (aAp n p (([]:List Ext)++(e1::B2)).length cap) 129)],vc] (.bool true):=CtQ.conv (aDq bs ⟨n,(([]:List Ext)++(e1::B2))⟩ _ ⟨p,cap,vc,rfl,hV,hfo,hn⟩ first m hm hfm) (by simp)
 have hBe:=aDr bs n cap first p vc ([]:List Ext) (e1::B2) hfo hn hV hA hB
 have hlen:=aDo hfo (k:=0) (by omega) (by omega)
 have hl:(([]:List Ext)++(e1::B2)).length=0+(B2.length+1):=by simp<;>omega
 have hlA:(([]:List Ext):List Ext).length=0:=by simp
 have hl2:([]++[(first,m)]++(e1::B2)).length=0+1+(B2.length+1):=by simp<;>omega
 have hfb:=hfo.1
 have hE1:=aEo first m (by omega)
 have hb1:=hfb e1 (by simp)
 rw[hl] at hI hBe hlen⊢
 rw[hlA] at hBe
 rw[hl] at hV
 rw[hl2]
 unfold aAp at hI hBe⊢
 have hVV:=hV
 obtain⟨_,h0|⟨vb,rest,rfl,rfl,hrl,hmc,hcm⟩⟩:=hV
 ·omega
 obtain⟨k1,k2,k3⟩:=aTl (A:=([]:List Ext)) (rest:=rest) (B:=B2) (e:=e1) (i:=0) (by simp)
 generalize hcl:aAe (([]:List Ext)++(e1::B2))++rest=cells at*
 have hR:=fun bv=>aDs (some ⟨vb,0,none⟩) cap [] (e1::B2) [] (first,m) [(vb,row cells 126)] 0 (0+(B2.length+1)) ((0:Nat):Int) ((0:Nat):Int) (first:Int) (m:Int) (by simp) (by omega) (by simp only[AU,AL]<;>omega) (by simp) (by simp only[AU,AL]<;>omega) (by omega) bv 1 [] (by first|rfl|omega) (by first|rfl|(dsimp only;omega))
  (by rw[show[]++[]++(e1::B2)=(([]:List Ext)++(e1::B2)) by simp];exact hVV)
 simp only[AQ] at hR
 refine Ct.intro Tryz.func125 rfl Tryz.ntmps125 (nle rfl) fun w0=> ?_;dsimp only[aAa,AD]
 repeat(first|(refine st ?_;intros)|refine G.draw (id:=7) [(17,.quiet)] (h:= ?_)|refine G.draw [] (h:= ?_)|(refine cq hI ?_)|(refine cq hBe ?_)|(refine cq hE0 ?_)|(refine cq hE1 ?_))
 refine R.call (hct:=hR _) (h:= ?_)
 rintro _ _ ⟨p2,cap2,c2,rfl,hV2,rfl⟩
 try dsimp only[AA,AB]
 repeat(first|(refine st ?_;intros)|refine G.draw (id:=7) [(17,.quiet)] (h:= ?_)|refine G.draw [] (h:= ?_)|(refine cq hI ?_)|(refine cq hBe ?_)|(refine cq hE0 ?_)|(refine cq hE1 ?_))
 (refine Dn.post (Hr:=[[(bs,row [.int .i64 0,.int .i64 (n:Int),.slice p2 (0+1+((e1::B2):List Ext).length) cap2] 129)],c2]) Tryz.results125 (hR:= ?_);refine⟨rfl,p2,cap2,c2,?_,?_⟩)
 ·first|rfl|(rw[show((e1::B2):List Ext).length=(B2.length+1) by simp])
 ·first|exact hV2|(simpa using hV2)|(rw[show 0+1+(B2.length+1)=0+1+((e1::B2):List Ext).length by simp];exact hV2)
theorem bLu (B2:List Ext) (e1:Ext) (hb:e1.1=first+m) (hfo:fok n (([]:List Ext)++(e1::B2))) (hA:∀e∈(([]:List Ext):List Ext),e.1+e.2≤first) (hB:∀e∈((e1::B2):List Ext),first<e.1+e.2) (hV:Vec 126 2 p (([]:List Ext)++(e1::B2)).length cap (aAe (([]:List Ext)++(e1::B2))) vc):
  Ct AC 125 [.pointer (some ⟨bs,0,none⟩),.int .i64 (first:Int),.int .i64 (m:Int)] [[(bs,row (aAp n p (([]:List Ext)++(e1::B2)).length cap) 129)],vc] fun v H'=>
   v= .int .i64 0∧∃p' cap' vc',H'=[[(bs,row (aAp n p' ([]++[(first,m+e1.2)]++B2).length cap') 129)],vc']∧Vec 126 2 p' ([]++[(first,m+e1.2)]++B2).length cap' (aAe ([]++[(first,m+e1.2)]++B2)) vc':=by
 have hI:CtQ AC 158 [.pointer (some ⟨bs,0,none⟩),.int .i64 (first:Int),.int .i64 (m:Int)] [[(bs,row (aAp n p (([]:List Ext)++(e1::B2)).length cap) 129)],vc] (.bool true):=CtQ.conv (aDq bs ⟨n,(([]:List Ext)++(e1::B2))⟩ _ ⟨p,cap,vc,rfl,hV,hfo,hn⟩ first m hm hfm) (by simp)
 have hBe:=aDr bs n cap first p vc ([]:List Ext) (e1::B2) hfo hn hV hA hB
 have hlen:=aDo hfo (k:=0) (by omega) (by omega)
 have hl:(([]:List Ext)++(e1::B2)).length=0+(B2.length+1):=by simp<;>omega
 have hlA:(([]:List Ext):List Ext).length=0:=by simp
 have hl2:([]++[(first,m+e1.2)]++B2).length=0+1+B2.length:=by simp<;>omega
 have hfb:=hfo.1
 have hE1:=aEo first m (by omega)
 have hb1:=hfb e1 (by simp)
 rw[hl] at hI hBe hlen⊢
 rw[hlA] at hBe
 rw[hl] at hV
 rw[hl2]
 unfold aAp at hI hBe⊢
 have hVV:=hV
 obtain⟨_,h0|⟨vb,rest,rfl,rfl,hrl,hmc,hcm⟩⟩:=hV
 ·omega
 obtain⟨k1,k2,k3⟩:=aTl (A:=([]:List Ext)) (rest:=rest) (B:=B2) (e:=e1) (i:=0) (by simp)
 generalize hcl:aAe (([]:List Ext)++(e1::B2))++rest=cells at*
 have hR:=fun bv=>aDs (some ⟨vb,0,none⟩) cap [] B2 [e1] (first,m+e1.2) [(vb,row cells 126)] 0 (0+(B2.length+1)) ((0:Nat):Int) (((0:Nat):Int)+1) (first:Int) ((m:Int)+(e1.2:Int)) (by simp) (by omega) (by simp only[AU,AL]<;>omega) (by simp) (by simp only[AU,AL]<;>omega) (by omega) bv 1 [] (by first|rfl|omega) (by first|rfl|(dsimp only;omega))
  (by rw[show[]++[e1]++B2=(([]:List Ext)++(e1::B2)) by simp];exact hVV)
 simp only[AQ] at hR
 refine Ct.intro Tryz.func125 rfl Tryz.ntmps125 (nle rfl) fun w0=> ?_;dsimp only[aAa,AD]
 repeat(first|(refine st ?_;intros)|refine G.draw (id:=7) [(17,.quiet)] (h:= ?_)|refine G.draw [] (h:= ?_)|(refine cq hI ?_)|(refine cq hBe ?_)|(refine cq hE0 ?_)|(refine cq hE1 ?_))
 refine R.call (hct:=hR _) (h:= ?_)
 rintro _ _ ⟨p2,cap2,c2,rfl,hV2,rfl⟩
 try dsimp only[AA,AB]
 repeat(first|(refine st ?_;intros)|refine G.draw (id:=7) [(17,.quiet)] (h:= ?_)|refine G.draw [] (h:= ?_)|(refine cq hI ?_)|(refine cq hBe ?_)|(refine cq hE0 ?_)|(refine cq hE1 ?_))
 (refine Dn.post (Hr:=[[(bs,row [.int .i64 0,.int .i64 (n:Int),.slice p2 (0+1+(B2:List Ext).length) cap2] 129)],c2]) Tryz.results125 (hR:= ?_);refine⟨rfl,p2,cap2,c2,?_,?_⟩)
 ·first|rfl|(rw[show(B2:List Ext).length=B2.length by simp])
 ·first|exact hV2|(simpa using hV2)|(rw[show 0+1+B2.length=0+1+(B2:List Ext).length by simp];exact hV2)
theorem bLv (A2:List Ext) (e0:Ext) (ha:e0.1+e0.2<first) (hfo:fok n ((A2++[e0])++([]:List Ext))) (hA:∀e∈((A2++[e0]):List Ext),e.1+e.2≤first) (hB:∀e∈(([]:List Ext):List Ext),first<e.1+e.2) (hV:Vec 126 2 p ((A2++[e0])++([]:List Ext)).length cap (aAe ((A2++[e0])++([]:List Ext))) vc):
  Ct AC 125 [.pointer (some ⟨bs,0,none⟩),.int .i64 (first:Int),.int .i64 (m:Int)] [[(bs,row (aAp n p ((A2++[e0])++([]:List Ext)).length cap) 129)],vc] fun v H'=>
   v= .int .i64 0∧∃p' cap' vc',H'=[[(bs,row (aAp n p' ((A2++[e0])++[(first,m)]++[]).length cap') 129)],vc']∧Vec 126 2 p' ((A2++[e0])++[(first,m)]++[]).length cap' (aAe ((A2++[e0])++[(first,m)]++[])) vc':=by
 have hI:CtQ AC 158 [.pointer (some ⟨bs,0,none⟩),.int .i64 (first:Int),.int .i64 (m:Int)] [[(bs,row (aAp n p ((A2++[e0])++([]:List Ext)).length cap) 129)],vc] (.bool true):=CtQ.conv (aDq bs ⟨n,((A2++[e0])++([]:List Ext))⟩ _ ⟨p,cap,vc,rfl,hV,hfo,hn⟩ first m hm hfm) (by simp)
 have hBe:=aDr bs n cap first p vc (A2++[e0]) ([]:List Ext) hfo hn hV hA hB
 have hlen:=aDo hfo (k:=0) (by omega) (by omega)
 have hl:((A2++[e0])++([]:List Ext)).length=(A2.length+1)+0:=by simp<;>omega
 have hlA:((A2++[e0]):List Ext).length=(A2.length+1):=by simp
 have hl2:((A2++[e0])++[(first,m)]++[]).length=(A2.length+1)+1+0:=by simp<;>omega
 have hfb:=hfo.1
 have hE1:=aEo first m (by omega)
 have hb0:=hfb e0 (by simp)
 have hE0:=aEo e0.1 e0.2 (by omega)
 rw[hl] at hI hBe hlen⊢
 rw[hlA] at hBe
 rw[hl] at hV
 rw[hl2]
 unfold aAp at hI hBe⊢
 have hVV:=hV
 obtain⟨_,h0|⟨vb,rest,rfl,rfl,hrl,hmc,hcm⟩⟩:=hV
 ·omega
 obtain⟨g1,g2,g3⟩:=aTl (A:=A2) (rest:=rest) (B:=([]:List Ext)) (e:=e0) (rfl:A2.length=A2.length)
 rw[show A2++e0::([]:List Ext)=((A2++[e0])++([]:List Ext)) by simp] at g1 g2 g3
 have ei:(((A2.length+1:Nat):Int)-1).toNat=A2.length:=by omega
 generalize hcl:aAe ((A2++[e0])++([]:List Ext))++rest=cells at*
 have hR:=fun bv=>aDs (some ⟨vb,0,none⟩) cap (A2++[e0]) [] [] (first,m) [(vb,row cells 126)] (A2.length+1) ((A2.length+1)+0) (((A2.length+1):Nat):Int) (((A2.length+1):Nat):Int) (first:Int) (m:Int) (by simp) (by omega) (by simp only[AU,AL]<;>omega) (by simp) (by simp only[AU,AL]<;>omega) (by omega) bv 1 [] (by first|rfl|omega) (by first|rfl|(dsimp only;omega))
  (by rw[show(A2++[e0])++[]++[]=((A2++[e0])++([]:List Ext)) by simp];exact hVV)
 simp only[AQ] at hR
 refine Ct.intro Tryz.func125 rfl Tryz.ntmps125 (nle rfl) fun w0=> ?_;dsimp only[aAa,AD]
 repeat(first|(refine st ?_;intros)|refine G.draw (id:=7) [(17,.quiet)] (h:= ?_)|refine G.draw [] (h:= ?_)|(refine cq hI ?_)|(refine cq hBe ?_)|(refine cq hE0 ?_)|(refine cq hE1 ?_))
 refine R.call (hct:=hR _) (h:= ?_)
 rintro _ _ ⟨p2,cap2,c2,rfl,hV2,rfl⟩
 try dsimp only[AA,AB]
 repeat(first|(refine st ?_;intros)|refine G.draw (id:=7) [(17,.quiet)] (h:= ?_)|refine G.draw [] (h:= ?_)|(refine cq hI ?_)|(refine cq hBe ?_)|(refine cq hE0 ?_)|(refine cq hE1 ?_))
 (refine Dn.post (Hr:=[[(bs,row [.int .i64 0,.int .i64 (n:Int),.slice p2 ((A2.length+1)+1+([]:List Ext).length) cap2] 129)],c2]) Tryz.results125 (hR:= ?_);refine⟨rfl,p2,cap2,c2,?_,?_⟩)
 ·first|rfl|(rw[show([]:List Ext).length=0 by simp])
 ·first|exact hV2|(simpa using hV2)|(rw[show(A2.length+1)+1+0=(A2.length+1)+1+([]:List Ext).length by simp];exact hV2)
theorem bLw (A2:List Ext) (e0:Ext) (B2:List Ext) (e1:Ext) (ha:e0.1+e0.2<first) (hb:first+m<e1.1) (hfo:fok n ((A2++[e0])++(e1::B2))) (hA:∀e∈((A2++[e0]):List Ext),e.1+e.2≤first) (hB:∀e∈((e1::B2):List Ext),first<e.1+e.2) (hV:Vec 126 2 p ((A2++[e0])++(e1::B2)).length cap (aAe ((A2++[e0])++(e1::B2))) vc):
  Ct AC 125 [.pointer (some ⟨bs,0,none⟩),.int .i64 (first:Int),.int .i64 (m:Int)] [[(bs,row (aAp n p ((A2++[e0])++(e1::B2)).length cap) 129)],vc] fun v H'=>
   v= .int .i64 0∧∃p' cap' vc',H'=[[(bs,row (aAp n p' ((A2++[e0])++[(first,m)]++(e1::B2)).length cap') 129)],vc']∧Vec 126 2 p' ((A2++[e0])++[(first,m)]++(e1::B2)).length cap' (aAe ((A2++[e0])++[(first,m)]++(e1::B2))) vc':=by
 have hI:CtQ AC 158 [.pointer (some ⟨bs,0,none⟩),.int .i64 (first:Int),.int .i64 (m:Int)] [[(bs,row (aAp n p ((A2++[e0])++(e1::B2)).length cap) 129)],vc] (.bool true):=CtQ.conv (aDq bs ⟨n,((A2++[e0])++(e1::B2))⟩ _ ⟨p,cap,vc,rfl,hV,hfo,hn⟩ first m hm hfm) (by simp)
 have hBe:=aDr bs n cap first p vc (A2++[e0]) (e1::B2) hfo hn hV hA hB
 have hlen:=aDo hfo (k:=0) (by omega) (by omega)
 have hl:((A2++[e0])++(e1::B2)).length=(A2.length+1)+(B2.length+1):=by simp<;>omega
 have hlA:((A2++[e0]):List Ext).length=(A2.length+1):=by simp
 have hl2:((A2++[e0])++[(first,m)]++(e1::B2)).length=(A2.length+1)+1+(B2.length+1):=by simp<;>omega
 have hfb:=hfo.1
 have hE1:=aEo first m (by omega)
 have hb0:=hfb e0 (by simp)
 have hE0:=aEo e0.1 e0.2 (by omega)
 have hb1:=hfb e1 (by simp)
 rw[hl] at hI hBe hlen⊢
 rw[hlA] at hBe
 rw[hl] at hV
 rw[hl2]
 unfold aAp at hI hBe⊢
 have hVV:=hV
 obtain⟨_,h0|⟨vb,rest,rfl,rfl,hrl,hmc,hcm⟩⟩:=hV
 ·omega
 obtain⟨g1,g2,g3⟩:=aTl (A:=A2) (rest:=rest) (B:=(e1::B2)) (e:=e0) (rfl:A2.length=A2.length)
 rw[show A2++e0::(e1::B2)=((A2++[e0])++(e1::B2)) by simp] at g1 g2 g3
 have ei:(((A2.length+1:Nat):Int)-1).toNat=A2.length:=by omega
 obtain⟨k1,k2,k3⟩:=aTl (A:=(A2++[e0])) (rest:=rest) (B:=B2) (e:=e1) (i:=(A2.length+1)) (by simp)
 generalize hcl:aAe ((A2++[e0])++(e1::B2))++rest=cells at*
 have hR:=fun bv=>aDs (some ⟨vb,0,none⟩) cap (A2++[e0]) (e1::B2) [] (first,m) [(vb,row cells 126)] (A2.length+1) ((A2.length+1)+(B2.length+1)) (((A2.length+1):Nat):Int) (((A2.length+1):Nat):Int) (first:Int) (m:Int) (by simp) (by omega) (by simp only[AU,AL]<;>omega) (by simp) (by simp only[AU,AL]<;>omega) (by omega) bv 1 [] (by first|rfl|omega) (by first|rfl|(dsimp only;omega))
  (by rw[show(A2++[e0])++[]++(e1::B2)=((A2++[e0])++(e1::B2)) by simp];exact hVV)
 simp only[AQ] at hR
 refine Ct.intro Tryz.func125 rfl Tryz.ntmps125 (nle rfl) fun w0=> ?_;dsimp only[aAa,AD]
 repeat(first|(refine st ?_;intros)|refine G.draw (id:=7) [(17,.quiet)] (h:= ?_)|refine G.draw [] (h:= ?_)|(refine cq hI ?_)|(refine cq hBe ?_)|(refine cq hE0 ?_)|(refine cq hE1 ?_))
 refine R.call (hct:=hR _) (h:= ?_)
 rintro _ _ ⟨p2,cap2,c2,rfl,hV2,rfl⟩
 try dsimp only[AA,AB]
 repeat(first|(refine st ?_;intros)|refine G.draw (id:=7) [(17,.quiet)] (h:= ?_)|refine G.draw [] (h:= ?_)|(refine cq hI ?_)|(refine cq hBe ?_)|(refine cq hE0 ?_)|(refine cq hE1 ?_))
 (refine Dn.post (Hr:=[[(bs,row [.int .i64 0,.int .i64 (n:Int),.slice p2 ((A2.length+1)+1+((e1::B2):List Ext).length) cap2] 129)],c2]) Tryz.results125 (hR:= ?_);refine⟨rfl,p2,cap2,c2,?_,?_⟩)
 ·first|rfl|(rw[show((e1::B2):List Ext).length=(B2.length+1) by simp])
 ·first|exact hV2|(simpa using hV2)|(rw[show(A2.length+1)+1+(B2.length+1)=(A2.length+1)+1+((e1::B2):List Ext).length by simp];exact hV2)
theorem bLx (A2:List Ext) (e0:Ext) (B2:List Ext) (e1:Ext) (ha:e0.1+e0.2<first) (hb:e1.1=first+m) (hfo:fok n ((A2++[e0])++(e1::B2))) (hA:∀e∈((A2++[e0]):List Ext),e.1+e.2≤first) (hB:∀e∈((e1::B2):List Ext),first<e.1+e.2) (hV:Vec 126 2 p ((A2++[e0])++(e1::B2)).length cap (aAe ((A2++[e0])++(e1::B2))) vc):
  Ct AC 125 [.pointer (some ⟨bs,0,none⟩),.int .i64 (first:Int),.int .i64 (m:Int)] [[(bs,row (aAp n p ((A2++[e0])++(e1::B2)).length cap) 129)],vc] fun v H'=>
   v= .int .i64 0∧∃p' cap' vc',H'=[[(bs,row (aAp n p' ((A2++[e0])++[(first,m+e1.2)]++B2).length cap') 129)],vc']∧Vec 126 2 p' ((A2++[e0])++[(first,m+e1.2)]++B2).length cap' (aAe ((A2++[e0])++[(first,m+e1.2)]++B2)) vc':=by
 have hI:CtQ AC 158 [.pointer (some ⟨bs,0,none⟩),.int .i64 (first:Int),.int .i64 (m:Int)] [[(bs,row (aAp n p ((A2++[e0])++(e1::B2)).length cap) 129)],vc] (.bool true):=CtQ.conv (aDq bs ⟨n,((A2++[e0])++(e1::B2))⟩ _ ⟨p,cap,vc,rfl,hV,hfo,hn⟩ first m hm hfm) (by simp)
 have hBe:=aDr bs n cap first p vc (A2++[e0]) (e1::B2) hfo hn hV hA hB
 have hlen:=aDo hfo (k:=0) (by omega) (by omega)
 have hl:((A2++[e0])++(e1::B2)).length=(A2.length+1)+(B2.length+1):=by simp<;>omega
 have hlA:((A2++[e0]):List Ext).length=(A2.length+1):=by simp
 have hl2:((A2++[e0])++[(first,m+e1.2)]++B2).length=(A2.length+1)+1+B2.length:=by simp<;>omega
 have hfb:=hfo.1
 have hE1:=aEo first m (by omega)
 have hb0:=hfb e0 (by simp)
 have hE0:=aEo e0.1 e0.2 (by omega)
 have hb1:=hfb e1 (by simp)
 rw[hl] at hI hBe hlen⊢
 rw[hlA] at hBe
 rw[hl] at hV
 rw[hl2]
 unfold aAp at hI hBe⊢
 have hVV:=hV
 obtain⟨_,h0|⟨vb,rest,rfl,rfl,hrl,hmc,hcm⟩⟩:=hV
 ·omega
 obtain⟨g1,g2,g3⟩:=aTl (A:=A2) (rest:=rest) (B:=(e1::B2)) (e:=e0) (rfl:A2.length=A2.length)
 rw[show A2++e0::(e1::B2)=((A2++[e0])++(e1::B2)) by simp] at g1 g2 g3
 have ei:(((A2.length+1:Nat):Int)-1).toNat=A2.length:=by omega
 obtain⟨k1,k2,k3⟩:=aTl (A:=(A2++[e0])) (rest:=rest) (B:=B2) (e:=e1) (i:=(A2.length+1)) (by simp)
 generalize hcl:aAe ((A2++[e0])++(e1::B2))++rest=cells at*
 have hR:=fun bv=>aDs (some ⟨vb,0,none⟩) cap (A2++[e0]) B2 [e1] (first,m+e1.2) [(vb,row cells 126)] (A2.length+1) ((A2.length+1)+(B2.length+1)) (((A2.length+1):Nat):Int) ((((A2.length+1):Nat):Int)+1) (first:Int) ((m:Int)+(e1.2:Int)) (by simp) (by omega) (by simp only[AU,AL]<;>omega) (by simp) (by simp only[AU,AL]<;>omega) (by omega) bv 1 [] (by first|rfl|omega) (by first|rfl|(dsimp only;omega))
  (by rw[show(A2++[e0])++[e1]++B2=((A2++[e0])++(e1::B2)) by simp];exact hVV)
 simp only[AQ] at hR
 refine Ct.intro Tryz.func125 rfl Tryz.ntmps125 (nle rfl) fun w0=> ?_;dsimp only[aAa,AD]
 repeat(first|(refine st ?_;intros)|refine G.draw (id:=7) [(17,.quiet)] (h:= ?_)|refine G.draw [] (h:= ?_)|(refine cq hI ?_)|(refine cq hBe ?_)|(refine cq hE0 ?_)|(refine cq hE1 ?_))
 refine R.call (hct:=hR _) (h:= ?_)
 rintro _ _ ⟨p2,cap2,c2,rfl,hV2,rfl⟩
 try dsimp only[AA,AB]
 repeat(first|(refine st ?_;intros)|refine G.draw (id:=7) [(17,.quiet)] (h:= ?_)|refine G.draw [] (h:= ?_)|(refine cq hI ?_)|(refine cq hBe ?_)|(refine cq hE0 ?_)|(refine cq hE1 ?_))
 (refine Dn.post (Hr:=[[(bs,row [.int .i64 0,.int .i64 (n:Int),.slice p2 ((A2.length+1)+1+(B2:List Ext).length) cap2] 129)],c2]) Tryz.results125 (hR:= ?_);refine⟨rfl,p2,cap2,c2,?_,?_⟩)
 ·first|rfl|(rw[show(B2:List Ext).length=B2.length by simp])
 ·first|exact hV2|(simpa using hV2)|(rw[show(A2.length+1)+1+B2.length=(A2.length+1)+1+(B2:List Ext).length by simp];exact hV2)
theorem bLy (A2:List Ext) (e0:Ext) (ha:e0.1+e0.2=first) (hfo:fok n ((A2++[e0])++([]:List Ext))) (hA:∀e∈((A2++[e0]):List Ext),e.1+e.2≤first) (hB:∀e∈(([]:List Ext):List Ext),first<e.1+e.2) (hV:Vec 126 2 p ((A2++[e0])++([]:List Ext)).length cap (aAe ((A2++[e0])++([]:List Ext))) vc):
  Ct AC 125 [.pointer (some ⟨bs,0,none⟩),.int .i64 (first:Int),.int .i64 (m:Int)] [[(bs,row (aAp n p ((A2++[e0])++([]:List Ext)).length cap) 129)],vc] fun v H'=>
   v= .int .i64 0∧∃p' cap' vc',H'=[[(bs,row (aAp n p' (A2++[(e0.1,m+e0.2)]++[]).length cap') 129)],vc']∧Vec 126 2 p' (A2++[(e0.1,m+e0.2)]++[]).length cap' (aAe (A2++[(e0.1,m+e0.2)]++[])) vc':=by
 have hI:CtQ AC 158 [.pointer (some ⟨bs,0,none⟩),.int .i64 (first:Int),.int .i64 (m:Int)] [[(bs,row (aAp n p ((A2++[e0])++([]:List Ext)).length cap) 129)],vc] (.bool true):=CtQ.conv (aDq bs ⟨n,((A2++[e0])++([]:List Ext))⟩ _ ⟨p,cap,vc,rfl,hV,hfo,hn⟩ first m hm hfm) (by simp)
 have hBe:=aDr bs n cap first p vc (A2++[e0]) ([]:List Ext) hfo hn hV hA hB
 have hlen:=aDo hfo (k:=0) (by omega) (by omega)
 have hl:((A2++[e0])++([]:List Ext)).length=(A2.length+1)+0:=by simp<;>omega
 have hlA:((A2++[e0]):List Ext).length=(A2.length+1):=by simp
 have hl2:(A2++[(e0.1,m+e0.2)]++[]).length=A2.length+1+0:=by simp<;>omega
 have hfb:=hfo.1
 have hE1:=aEo first m (by omega)
 have hb0:=hfb e0 (by simp)
 have hE0:=aEo e0.1 e0.2 (by omega)
 rw[hl] at hI hBe hlen⊢
 rw[hlA] at hBe
 rw[hl] at hV
 rw[hl2]
 unfold aAp at hI hBe⊢
 have hVV:=hV
 obtain⟨_,h0|⟨vb,rest,rfl,rfl,hrl,hmc,hcm⟩⟩:=hV
 ·omega
 obtain⟨g1,g2,g3⟩:=aTl (A:=A2) (rest:=rest) (B:=([]:List Ext)) (e:=e0) (rfl:A2.length=A2.length)
 rw[show A2++e0::([]:List Ext)=((A2++[e0])++([]:List Ext)) by simp] at g1 g2 g3
 have ei:(((A2.length+1:Nat):Int)-1).toNat=A2.length:=by omega
 generalize hcl:aAe ((A2++[e0])++([]:List Ext))++rest=cells at*
 have hR:=fun bv=>aDs (some ⟨vb,0,none⟩) cap A2 [] [e0] (e0.1,m+e0.2) [(vb,row cells 126)] A2.length ((A2.length+1)+0) ((((A2.length+1):Nat):Int)-1) (((A2.length+1):Nat):Int) (e0.1:Int) ((m:Int)+(e0.2:Int)) (by simp) (by omega) (by simp only[AU,AL]<;>omega) (by simp) (by simp only[AU,AL]<;>omega) (by omega) bv 1 [] (by first|rfl|omega) (by first|rfl|(dsimp only;omega))
  (by rw[show A2++[e0]++[]=((A2++[e0])++([]:List Ext)) by simp];exact hVV)
 simp only[AQ] at hR
 refine Ct.intro Tryz.func125 rfl Tryz.ntmps125 (nle rfl) fun w0=> ?_;dsimp only[aAa,AD]
 repeat(first|(refine st ?_;intros)|refine G.draw (id:=7) [(17,.quiet)] (h:= ?_)|refine G.draw [] (h:= ?_)|(refine cq hI ?_)|(refine cq hBe ?_)|(refine cq hE0 ?_)|(refine cq hE1 ?_))
 refine R.call (hct:=hR _) (h:= ?_)
 rintro _ _ ⟨p2,cap2,c2,rfl,hV2,rfl⟩
 try dsimp only[AA,AB]
 repeat(first|(refine st ?_;intros)|refine G.draw (id:=7) [(17,.quiet)] (h:= ?_)|refine G.draw [] (h:= ?_)|(refine cq hI ?_)|(refine cq hBe ?_)|(refine cq hE0 ?_)|(refine cq hE1 ?_))
 (refine Dn.post (Hr:=[[(bs,row [.int .i64 0,.int .i64 (n:Int),.slice p2 (A2.length+1+([]:List Ext).length) cap2] 129)],c2]) Tryz.results125 (hR:= ?_);refine⟨rfl,p2,cap2,c2,?_,?_⟩)
 ·first|rfl|(rw[show([]:List Ext).length=0 by simp])
 ·first|exact hV2|(simpa using hV2)|(rw[show A2.length+1+0=A2.length+1+([]:List Ext).length by simp];exact hV2)
theorem bLz (A2:List Ext) (e0:Ext) (B2:List Ext) (e1:Ext) (ha:e0.1+e0.2=first) (hb:first+m<e1.1) (hfo:fok n ((A2++[e0])++(e1::B2))) (hA:∀e∈((A2++[e0]):List Ext),e.1+e.2≤first) (hB:∀e∈((e1::B2):List Ext),first<e.1+e.2) (hV:Vec 126 2 p ((A2++[e0])++(e1::B2)).length cap (aAe ((A2++[e0])++(e1::B2))) vc):
  Ct AC 125 [.pointer (some ⟨bs,0,none⟩),.int .i64 (first:Int),.int .i64 (m:Int)] [[(bs,row (aAp n p ((A2++[e0])++(e1::B2)).length cap) 129)],vc] fun v H'=>
   v= .int .i64 0∧∃p' cap' vc',H'=[[(bs,row (aAp n p' (A2++[(e0.1,m+e0.2)]++(e1::B2)).length cap') 129)],vc']∧Vec 126 2 p' (A2++[(e0.1,m+e0.2)]++(e1::B2)).length cap' (aAe (A2++[(e0.1,m+e0.2)]++(e1::B2))) vc':=by
 have hI:CtQ AC 158 [.pointer (some ⟨bs,0,none⟩),.int .i64 (first:Int),.int .i64 (m:Int)] [[(bs,row (aAp n p ((A2++[e0])++(e1::B2)).length cap) 129)],vc] (.bool true):=CtQ.conv (aDq bs ⟨n,((A2++[e0])++(e1::B2))⟩ _ ⟨p,cap,vc,rfl,hV,hfo,hn⟩ first m hm hfm) (by simp)
 have hBe:=aDr bs n cap first p vc (A2++[e0]) (e1::B2) hfo hn hV hA hB
 have hlen:=aDo hfo (k:=0) (by omega) (by omega)
 have hl:((A2++[e0])++(e1::B2)).length=(A2.length+1)+(B2.length+1):=by simp<;>omega
 have hlA:((A2++[e0]):List Ext).length=(A2.length+1):=by simp
 have hl2:(A2++[(e0.1,m+e0.2)]++(e1::B2)).length=A2.length+1+(B2.length+1):=by simp<;>omega
 have hfb:=hfo.1
 have hE1:=aEo first m (by omega)
 have hb0:=hfb e0 (by simp)
 have hE0:=aEo e0.1 e0.2 (by omega)
 have hb1:=hfb e1 (by simp)
 rw[hl] at hI hBe hlen⊢
 rw[hlA] at hBe
 rw[hl] at hV
 rw[hl2]
 unfold aAp at hI hBe⊢
 have hVV:=hV
 obtain⟨_,h0|⟨vb,rest,rfl,rfl,hrl,hmc,hcm⟩⟩:=hV
 ·omega
 obtain⟨g1,g2,g3⟩:=aTl (A:=A2) (rest:=rest) (B:=(e1::B2)) (e:=e0) (rfl:A2.length=A2.length)
 rw[show A2++e0::(e1::B2)=((A2++[e0])++(e1::B2)) by simp] at g1 g2 g3
 have ei:(((A2.length+1:Nat):Int)-1).toNat=A2.length:=by omega
 obtain⟨k1,k2,k3⟩:=aTl (A:=(A2++[e0])) (rest:=rest) (B:=B2) (e:=e1) (i:=(A2.length+1)) (by simp)
 generalize hcl:aAe ((A2++[e0])++(e1::B2))++rest=cells at*
 have hR:=fun bv=>aDs (some ⟨vb,0,none⟩) cap A2 (e1::B2) [e0] (e0.1,m+e0.2) [(vb,row cells 126)] A2.length ((A2.length+1)+(B2.length+1)) ((((A2.length+1):Nat):Int)-1) (((A2.length+1):Nat):Int) (e0.1:Int) ((m:Int)+(e0.2:Int)) (by simp) (by omega) (by simp only[AU,AL]<;>omega) (by simp) (by simp only[AU,AL]<;>omega) (by omega) bv 1 [] (by first|rfl|omega) (by first|rfl|(dsimp only;omega))
  (by rw[show A2++[e0]++(e1::B2)=((A2++[e0])++(e1::B2)) by simp];exact hVV)
 simp only[AQ] at hR
 refine Ct.intro Tryz.func125 rfl Tryz.ntmps125 (nle rfl) fun w0=> ?_;dsimp only[aAa,AD]
 repeat(first|(refine st ?_;intros)|refine G.draw (id:=7) [(17,.quiet)] (h:= ?_)|refine G.draw [] (h:= ?_)|(refine cq hI ?_)|(refine cq hBe ?_)|(refine cq hE0 ?_)|(refine cq hE1 ?_))
 refine R.call (hct:=hR _) (h:= ?_)
 rintro _ _ ⟨p2,cap2,c2,rfl,hV2,rfl⟩
 try dsimp only[AA,AB]
 repeat(first|(refine st ?_;intros)|refine G.draw (id:=7) [(17,.quiet)] (h:= ?_)|refine G.draw [] (h:= ?_)|(refine cq hI ?_)|(refine cq hBe ?_)|(refine cq hE0 ?_)|(refine cq hE1 ?_))
 (refine Dn.post (Hr:=[[(bs,row [.int .i64 0,.int .i64 (n:Int),.slice p2 (A2.length+1+((e1::B2):List Ext).length) cap2] 129)],c2]) Tryz.results125 (hR:= ?_);refine⟨rfl,p2,cap2,c2,?_,?_⟩)
 ·first|rfl|(rw[show((e1::B2):List Ext).length=(B2.length+1) by simp])
 ·first|exact hV2|(simpa using hV2)|(rw[show A2.length+1+(B2.length+1)=A2.length+1+((e1::B2):List Ext).length by simp];exact hV2)
theorem bMa (A2:List Ext) (e0:Ext) (B2:List Ext) (e1:Ext) (ha:e0.1+e0.2=first) (hb:e1.1=first+m) (hfo:fok n ((A2++[e0])++(e1::B2))) (hA:∀e∈((A2++[e0]):List Ext),e.1+e.2≤first) (hB:∀e∈((e1::B2):List Ext),first<e.1+e.2) (hV:Vec 126 2 p ((A2++[e0])++(e1::B2)).length cap (aAe ((A2++[e0])++(e1::B2))) vc):
  Ct AC 125 [.pointer (some ⟨bs,0,none⟩),.int .i64 (first:Int),.int .i64 (m:Int)] [[(bs,row (aAp n p ((A2++[e0])++(e1::B2)).length cap) 129)],vc] fun v H'=>
   v= .int .i64 0∧∃p' cap' vc',H'=[[(bs,row (aAp n p' (A2++[(e0.1,m+e1.2+e0.2)]++B2).length cap') 129)],vc']∧Vec 126 2 p' (A2++[(e0.1,m+e1.2+e0.2)]++B2).length cap' (aAe (A2++[(e0.1,m+e1.2+e0.2)]++B2)) vc':=by
 have hI:CtQ AC 158 [.pointer (some ⟨bs,0,none⟩),.int .i64 (first:Int),.int .i64 (m:Int)] [[(bs,row (aAp n p ((A2++[e0])++(e1::B2)).length cap) 129)],vc] (.bool true):=CtQ.conv (aDq bs ⟨n,((A2++[e0])++(e1::B2))⟩ _ ⟨p,cap,vc,rfl,hV,hfo,hn⟩ first m hm hfm) (by simp)
 have hBe:=aDr bs n cap first p vc (A2++[e0]) (e1::B2) hfo hn hV hA hB
 have hlen:=aDo hfo (k:=0) (by omega) (by omega)
 have hl:((A2++[e0])++(e1::B2)).length=(A2.length+1)+(B2.length+1):=by simp<;>omega
 have hlA:((A2++[e0]):List Ext).length=(A2.length+1):=by simp
 have hl2:(A2++[(e0.1,m+e1.2+e0.2)]++B2).length=A2.length+1+B2.length:=by simp<;>omega
 have hfb:=hfo.1
 have hE1:=aEo first m (by omega)
 have hb0:=hfb e0 (by simp)
 have hE0:=aEo e0.1 e0.2 (by omega)
 have hb1:=hfb e1 (by simp)
 rw[hl] at hI hBe hlen⊢
 rw[hlA] at hBe
 rw[hl] at hV
 rw[hl2]
 unfold aAp at hI hBe⊢
 have hVV:=hV
 obtain⟨_,h0|⟨vb,rest,rfl,rfl,hrl,hmc,hcm⟩⟩:=hV
 ·omega
 obtain⟨g1,g2,g3⟩:=aTl (A:=A2) (rest:=rest) (B:=(e1::B2)) (e:=e0) (rfl:A2.length=A2.length)
 rw[show A2++e0::(e1::B2)=((A2++[e0])++(e1::B2)) by simp] at g1 g2 g3
 have ei:(((A2.length+1:Nat):Int)-1).toNat=A2.length:=by omega
 obtain⟨k1,k2,k3⟩:=aTl (A:=(A2++[e0])) (rest:=rest) (B:=B2) (e:=e1) (i:=(A2.length+1)) (by simp)
 generalize hcl:aAe ((A2++[e0])++(e1::B2))++rest=cells at*
 have hR:=fun bv=>aDs (some ⟨vb,0,none⟩) cap A2 B2 [e0,e1] (e0.1,m+e1.2+e0.2) [(vb,row cells 126)] A2.length ((A2.length+1)+(B2.length+1)) ((((A2.length+1):Nat):Int)-1) ((((A2.length+1):Nat):Int)+1) (e0.1:Int) (((m:Int)+(e1.2:Int))+(e0.2:Int)) (by simp) (by omega) (by simp only[AU,AL]<;>omega) (by simp) (by simp only[AU,AL]<;>omega) (by omega) bv 1 [] (by first|rfl|omega) (by first|rfl|(dsimp only;omega))
  (by rw[show A2++[e0,e1]++B2=((A2++[e0])++(e1::B2)) by simp];exact hVV)
 simp only[AQ] at hR
 refine Ct.intro Tryz.func125 rfl Tryz.ntmps125 (nle rfl) fun w0=> ?_;dsimp only[aAa,AD]
 repeat(first|(refine st ?_;intros)|refine G.draw (id:=7) [(17,.quiet)] (h:= ?_)|refine G.draw [] (h:= ?_)|(refine cq hI ?_)|(refine cq hBe ?_)|(refine cq hE0 ?_)|(refine cq hE1 ?_))
 refine R.call (hct:=hR _) (h:= ?_)
 rintro _ _ ⟨p2,cap2,c2,rfl,hV2,rfl⟩
 try dsimp only[AA,AB]
 repeat(first|(refine st ?_;intros)|refine G.draw (id:=7) [(17,.quiet)] (h:= ?_)|refine G.draw [] (h:= ?_)|(refine cq hI ?_)|(refine cq hBe ?_)|(refine cq hE0 ?_)|(refine cq hE1 ?_))
 (refine Dn.post (Hr:=[[(bs,row [.int .i64 0,.int .i64 (n:Int),.slice p2 (A2.length+1+(B2:List Ext).length) cap2] 129)],c2]) Tryz.results125 (hR:= ?_);refine⟨rfl,p2,cap2,c2,?_,?_⟩)
 ·first|rfl|(rw[show(B2:List Ext).length=B2.length by simp])
 ·first|exact hV2|(simpa using hV2)|(rw[show A2.length+1+B2.length=A2.length+1+(B2:List Ext).length by simp];exact hV2)
end
theorem aHj {n first m f bl:Nat} {A1 B1 L R:List Ext} (hfo:fok n (A1++L++(R++B1))) (hm:1≤m) (hfm:first+m≤n)
  (hL:L=[]∧f=first∨∃e0:Ext,L=[e0]∧e0.1+e0.2=first∧f=e0.1) (hR:R=[]∧f+bl=first+m∨∃e1:Ext,R=[e1]∧e1.1=first+m∧f+bl=e1.1+e1.2)
  (hA:∀e∈A1,e.1+e.2<f) (hB:∀e∈B1,f+bl<e.1):Gave n (A1++L++(R++B1)) (A1++[(f,bl)]++B1) first m:=by
 obtain⟨h1,h2,h3⟩:=aCu.1 hfo
 obtain⟨h4,h5,h6⟩:=aCu.1 h1
 obtain⟨h7,h8,h9⟩:=aCu.1 h2
 have hf:f≤first∧first+m≤f+bl∧f+bl≤n:=by
  rcases hL with⟨rfl,e⟩|⟨e0,rfl,e,e'⟩<;>rcases hR with⟨rfl,g⟩|⟨e1,rfl,g,g'⟩
  ·omega
  ·have:=h7.1 e1 (by simp);omega
  ·omega
  ·have:=h7.1 e1 (by simp);omega
 refine⟨aCu.2 ⟨aCu.2 ⟨h4,aCl.2 ⟨⟨by dsimp only;omega,by dsimp only;omega⟩,bCu n,by simp⟩,fun x hx y hy=> ?_⟩,h8,fun x hx y hy=> ?_⟩,fun x=> ?_,?_,?_⟩
 ·simp only[AY] at hy;subst hy;exact hA x hx
 ·rcases AO.1 hx with hx|hx
  ·have:=hA x hx;have:=hB y hy;omega
  ·simp only[AY] at hx;subst hx;exact hB y hy
 ·simp only[aNs,aDk,aWk,or_false]
  clear h1 h2 h3 h4 h5 h6 h7 h8 h9 hA hB hfo
  rcases hL with⟨rfl,e⟩|⟨e0,rfl,e,e'⟩<;>rcases hR with⟨rfl,g⟩|⟨e1,rfl,g,g'⟩<;>simp only[aDk,aWk,or_false,false_or]<;>
   by_cases hP:inF A1 x<;>by_cases hQ:inF B1 x<;>simp only[hP,hQ,true_or,or_true,false_or,or_false]<;>omega
 ·rcases hL with⟨rfl,e⟩|⟨e0,rfl,e,e'⟩<;>rcases hR with⟨rfl,g⟩|⟨e1,rfl,g,g'⟩<;>simp<;>omega
 ·rcases hL with⟨rfl,e⟩|⟨e0,rfl,e,e'⟩<;>rcases hR with⟨rfl,g⟩|⟨e1,rfl,g,g'⟩<;>simp only[aWm,big,AB]<;>omega
theorem aNt (bs:Nat) (σ:Sp) (c:aAc) (h:aEr bs σ c) (first m:Nat) (hm:1≤m) (hfm:first+m≤σ.n) (hd:∀x,first≤x→x<first+m→¬inF σ.free x):
  Ct AC 125 [.pointer (some ⟨bs,0,none⟩),.int .i64 (first:Int),.int .i64 (m:Int)] [c] fun v H'=>
   ∃(c':aAc) (σ':Sp),v= .int .i64 0∧aEr bs σ' c'∧σ'.n=σ.n∧(∀x,inF σ'.free x↔inF σ.free x∨(first≤x∧x<first+m))∧aBb σ'.free=aBb σ.free+m∧big σ.free≤big σ'.free∧H'=[c']:=by
 obtain⟨n,free⟩:=σ
 obtain⟨p,cap,vc,rfl,hV,hfo,hn⟩:=h
 dsimp only at hV hfo hn hfm hd
 obtain⟨A,B,hAB,hA,hB⟩:=bKg first free hfo
 have fin:∀free',Gave n free free' first m→Ct AC 125 [.pointer (some ⟨bs,0,none⟩),.int .i64 (first:Int),.int .i64 (m:Int)] [[(bs,row (aAp n p free.length cap) 129)],vc] (fun v H'=>
   v= .int .i64 0∧∃p' cap' vc',H'=[[(bs,row (aAp n p' free'.length cap') 129)],vc']∧Vec 126 2 p' free'.length cap' (aAe free') vc')→Ct AC 125 [.pointer (some ⟨bs,0,none⟩),.int .i64 (first:Int),.int .i64 (m:Int)] [(bs,row (aAp n p free.length cap) 129)::vc] fun v H'=>
   ∃(c':aAc) (σ':Sp),v= .int .i64 0∧aEr bs σ' c'∧σ'.n=n∧(∀x,inF σ'.free x↔inF free x∨(first≤x∧x<first+m))∧aBb σ'.free=aBb free+m∧big free≤big σ'.free∧H'=[c']:=by
  intro free' hg hc
  refine Ct.conv hc (by simp) ?_
  rintro v H' ⟨rfl,p',cap',vc',rfl,hV'⟩
  exact⟨_,⟨_,⟨n,free'⟩,rfl,⟨p',cap',vc',rfl,hV',hg.1,hn⟩,rfl,hg.2.1,hg.2.2.1,hg.2.2.2,rfl⟩,by simp⟩
 subst hAB
 obtain⟨hfA,hfB,hcross⟩:=aCu.1 hfo
 have hA2:A=[]∨∃A2 e0,A=A2++[e0]:=by
  rcases List.eq_nil_or_concat A with h|⟨A2,e0,h⟩
  ·exact .inl h
  ·exact .inr ⟨A2,e0,by simpa using h⟩
 have hB2:∀e1 B2,B=e1::B2→first+m≤e1.1:=by
  rintro e1 B2 rfl
  exact aWl (hB e1 AI) (hfB.1 e1 AI).1 (fun x h1 h2 hh=>hd x h1 h2 (by rw[aNs];exact .inr hh)) hm
 rcases hA2 with rfl|⟨A2,e0,rfl⟩
 ·rcases B with _|⟨e1,B2⟩
  ·have hg:=aHj (n:=n) (first:=first) (m:=m) (f:=first) (bl:=m) (A1:=[]) (B1:=[]) (L:=[]) (R:=[]) (by simpa using hfo) hm hfm (.inl ⟨rfl,rfl⟩) (.inl ⟨rfl,by omega⟩) (by simp)
     (by simp)
   refine fin _ (by simpa using hg) ?_
   simpa using bLs bs n cap p vc first m hn hm hfm (by simpa using hfo) (by simpa using hA) (by simpa using hB) (by simpa using hV)
  ·have hb:=hB2 e1 B2 rfl
   by_cases hb:e1.1=first+m
   ·have hg:=aHj (n:=n) (first:=first) (m:=m) (f:=first) (bl:=m+e1.2) (A1:=[]) (B1:=B2) (L:=[]) (R:=[e1]) (by simpa using hfo) hm hfm (.inl ⟨rfl,rfl⟩) (.inr ⟨e1,rfl,hb,by omega⟩) (by simp)
      (fun e he=>by
       have:=(aCl.1 hfB).2.2 e he;omega)
    refine fin _ (by simpa using hg) ?_
    simpa using bLu bs n cap p vc first m hn hm hfm B2 e1 hb (by simpa using hfo) (by simpa using hA) (by simpa using hB) (by simpa using hV)
   ·have hb:first+m<e1.1:=by omega
    have hg:=aHj (n:=n) (first:=first) (m:=m) (f:=first) (bl:=m) (A1:=[]) (B1:=(e1::B2)) (L:=[]) (R:=[]) (by simpa using hfo) hm hfm (.inl ⟨rfl,rfl⟩) (.inl ⟨rfl,by omega⟩) (by simp)
      (fun e he=>by
       rcases AM.1 he with rfl|he
       ·omega
       ·have:=(aCl.1 hfB).2.2 e he;omega)
    refine fin _ (by simpa using hg) ?_
    simpa using bLt bs n cap p vc first m hn hm hfm B2 e1 hb (by simpa using hfo) (by simpa using hA) (by simpa using hB) (by simpa using hV)
 ·have ha:=hA e0 (by simp)
  by_cases ha:e0.1+e0.2=first
  ·rcases B with _|⟨e1,B2⟩
   ·have hg:=aHj (n:=n) (first:=first) (m:=m) (f:=e0.1) (bl:=m+e0.2) (A1:=A2) (B1:=[]) (L:=[e0]) (R:=[]) (by simpa using hfo) hm hfm (.inr ⟨e0,rfl,ha,rfl⟩) (.inl ⟨rfl,by omega⟩) (fun e he=>(aCu.1 hfA).2.2 e he e0 (by simp))
      (by simp)
    refine fin _ (by simpa using hg) ?_
    simpa using bLy bs n cap p vc first m hn hm hfm A2 e0 ha (by simpa using hfo) (by simpa using hA) (by simpa using hB) (by simpa using hV)
   ·have hb:=hB2 e1 B2 rfl
    by_cases hb:e1.1=first+m
    ·have hg:=aHj (n:=n) (first:=first) (m:=m) (f:=e0.1) (bl:=m+e1.2+e0.2) (A1:=A2) (B1:=B2) (L:=[e0]) (R:=[e1]) (by simpa using hfo) hm hfm (.inr ⟨e0,rfl,ha,rfl⟩) (.inr ⟨e1,rfl,hb,by omega⟩) (fun e he=>(aCu.1 hfA).2.2 e he e0 (by simp))
       (fun e he=>by
        have:=(aCl.1 hfB).2.2 e he;omega)
     refine fin _ (by simpa using hg) ?_
     simpa using bMa bs n cap p vc first m hn hm hfm A2 e0 B2 e1 ha hb (by simpa using hfo) (by simpa using hA) (by simpa using hB) (by simpa using hV)
    ·have hb:first+m<e1.1:=by omega
     have hg:=aHj (n:=n) (first:=first) (m:=m) (f:=e0.1) (bl:=m+e0.2) (A1:=A2) (B1:=(e1::B2)) (L:=[e0]) (R:=[]) (by simpa using hfo) hm hfm (.inr ⟨e0,rfl,ha,rfl⟩) (.inl ⟨rfl,by omega⟩) (fun e he=>(aCu.1 hfA).2.2 e he e0 (by simp))
       (fun e he=>by
        rcases AM.1 he with rfl|he
        ·omega
        ·have:=(aCl.1 hfB).2.2 e he;omega)
     refine fin _ (by simpa using hg) ?_
     simpa using bLz bs n cap p vc first m hn hm hfm A2 e0 B2 e1 ha hb (by simpa using hfo) (by simpa using hA) (by simpa using hB) (by simpa using hV)
  ·have ha:e0.1+e0.2<first:=by omega
   rcases B with _|⟨e1,B2⟩
   ·have hg:=aHj (n:=n) (first:=first) (m:=m) (f:=first) (bl:=m) (A1:=(A2++[e0])) (B1:=[]) (L:=[]) (R:=[]) (by simpa using hfo) hm hfm (.inl ⟨rfl,rfl⟩) (.inl ⟨rfl,by omega⟩) (fun e he=>by
       rcases AO.1 he with he|he
       ·have:=(aCu.1 hfA).2.2 e he e0 (by simp);omega
       ·simp only[AY] at he;subst he;exact ha)
      (by simp)
    refine fin _ (by simpa using hg) ?_
    simpa using bLv bs n cap p vc first m hn hm hfm A2 e0 ha (by simpa using hfo) (by simpa using hA) (by simpa using hB) (by simpa using hV)
   ·have hb:=hB2 e1 B2 rfl
    by_cases hb:e1.1=first+m
    ·have hg:=aHj (n:=n) (first:=first) (m:=m) (f:=first) (bl:=m+e1.2) (A1:=(A2++[e0])) (B1:=B2) (L:=[]) (R:=[e1]) (by simpa using hfo) hm hfm (.inl ⟨rfl,rfl⟩) (.inr ⟨e1,rfl,hb,by omega⟩) (fun e he=>by
        rcases AO.1 he with he|he
        ·have:=(aCu.1 hfA).2.2 e he e0 (by simp);omega
        ·simp only[AY] at he;subst he;exact ha)
       (fun e he=>by
        have:=(aCl.1 hfB).2.2 e he;omega)
     refine fin _ (by simpa using hg) ?_
     simpa using bLx bs n cap p vc first m hn hm hfm A2 e0 B2 e1 ha hb (by simpa using hfo) (by simpa using hA) (by simpa using hB) (by simpa using hV)
    ·have hb:first+m<e1.1:=by omega
     have hg:=aHj (n:=n) (first:=first) (m:=m) (f:=first) (bl:=m) (A1:=(A2++[e0])) (B1:=(e1::B2)) (L:=[]) (R:=[]) (by simpa using hfo) hm hfm (.inl ⟨rfl,rfl⟩) (.inl ⟨rfl,by omega⟩) (fun e he=>by
        rcases AO.1 he with he|he
        ·have:=(aCu.1 hfA).2.2 e he e0 (by simp);omega
        ·simp only[AY] at he;subst he;exact ha)
       (fun e he=>by
        rcases AM.1 he with rfl|he
        ·omega
        ·have:=(aCl.1 hfB).2.2 e he;omega)
     refine fin _ (by simpa using hg) ?_
     simpa using bLw bs n cap p vc first m hn hm hfm A2 e0 B2 e1 ha hb (by simpa using hfo) (by simpa using hA) (by simpa using hB) (by simpa using hV)
theorem aWp (n:Nat) (h1:1≤n) (h2:n≤1000000):Ct AC 40 [.int .i64 0,.int .i64 (n:Int)] [] fun v H'=>
  ∃bs c',v= .pointer (some ⟨bs,0,none⟩)∧aEr bs ⟨n,[(0,n)]⟩ c'∧H'=[c']:=by
 refine Ct.conv (H2:=[]) (R2:=fun v H'=>∃bs vb,v= .pointer (some ⟨bs,0,none⟩)∧H'=[[(bs,row [.int .i64 0,.int .i64 (n:Int),.slice (some ⟨vb,0,none⟩) 1 1] 129)],[(vb,row [.int .i64 0,.int .i64 (n:Int)] 126)]]) ?_ rfl ?_
 ·refine Ct.intro Tryz.func40 rfl Tryz.ntmps40 (nle rfl) fun w0=> ?_;dsimp only[aAa,AD]
  repeat(refine st ?_;intros)
  rename_i bs vb
  (refine Dn.post (Hr:=[[(bs,row [.int .i64 0,.int .i64 (n:Int),.slice (some ⟨vb,0,none⟩) 1 1] 129)],[(vb,row [.int .i64 0,.int .i64 (n:Int)] 126)]]) Tryz.results40 (hR:= ?_);exact⟨bs,vb,rfl,rfl⟩)
 ·rintro v H' ⟨bs,vb,rfl,rfl⟩
  refine⟨_,⟨bs,_,rfl,⟨some ⟨vb,0,none⟩,1,_,rfl,⟨rfl,.inr ⟨vb,[],rfl,rfl,by simp[aAe],AG _,by decide⟩⟩,?_,h2⟩,rfl⟩,by simp[aAp,aAe]⟩
  exact aCl.2 ⟨⟨h1,by dsimp only;omega⟩,bCu n,by simp⟩
theorem aTm {n:Nat}:∀{l:List Ext} {k:Nat},fok n l→(∀e∈l,k≤e.1)→k≤n→aBb l≤n-k
 |[],_,_,_,_=>by simp
 |e::l,k,h,hk,hn=>by
  obtain⟨h1,h2,h3⟩:=aCl.1 h
  have:=aTm (k:=e.1+e.2) h2 (fun y hy=>EB (h3 y hy)) h1.2
  have:=hk e AI
  simp only[aJa]
  omega
theorem bDa (p:Option Addr) (m cap:Nat) (xs:List Value) (c:aAc) (hV:Vec 126 2 p m cap xs c) (hm:m≤1000000) (h1:xs.all Value.oneCell'=true):
  Ct AC 145 [.slice p m cap] [c] fun v H'=>
   ∃p' cap' c',v= .slice p' m cap'∧Vec 126 2 p' m cap' xs c'∧H'=[c',c]:=by
 obtain⟨hxl,⟨rfl,rfl,rfl,rfl⟩|⟨b,rest,rfl,rfl,hrl,hmc,hcm⟩⟩:=hV
 ·obtain rfl:xs=[]:=DC (by simpa using hxl)
  refine Ct.intro Tryz.func145 rfl Tryz.ntmps145 (nle rfl) fun w0=> ?_;dsimp only[aAa,AD]
  repeat(refine st ?_;intros)
  (refine Dn.post (Hr:=[[],[]]) Tryz.results145 (hR:= ?_);exact⟨none,0,[],rfl,Vec.nil _ _,rfl⟩)
 ·by_cases h0:m=0
  ·subst h0
   obtain rfl:xs=[]:=DC (by simpa using hxl)
   have hz:(0:Nat)≤0:=AG _
   refine Ct.intro Tryz.func145 rfl Tryz.ntmps145 (nle rfl) fun w0=> ?_;dsimp only[aAa,AD]
   repeat(refine st ?_;intros)
   rename_i b0
   (refine Dn.post (Hr:=[[(b0,row [] 126)],[(b,row ([]++rest) 126)]]) Tryz.results145 (hR:= ?_);exact⟨some ⟨b0,0,none⟩,0,_,rfl,⟨rfl,.inr ⟨b0,[],rfl,rfl,by simp[aAe],AG _,by decide⟩⟩,rfl⟩)
  ·have hd:((xs++rest).drop 0).take (m*2)=xs:=aMv hxl
   refine Ct.intro Tryz.func145 rfl Tryz.ntmps145 (nle rfl) fun w0=> ?_;dsimp only[aAa,AD]
   repeat(refine st ?_;intros)
   rename_i b0
   have hN:Vec 126 2 (some ⟨b0,0,none⟩) 0 0 [] [(b0,row [] 126)]:=⟨rfl,.inr ⟨b0,[],rfl,rfl,by simp[aAe],AG _,by decide⟩⟩
   repeat(refine st ?_;intros)
   rename_i p' cap' c' hV'
   (refine Dn.post (Hr:=[c',[(b,row (xs++rest) 126)]]) Tryz.results145 (hR:= ?_);refine⟨p',cap',c',?_,?_,rfl⟩)
   ·show Value.slice p' (0+m) cap'=_
    rw[BR]
   ·simpa using hV'
theorem bAr (bs:Nat) (σ:Sp) (c:aAc) (h:aEr bs σ c):Ct AC 106 [.pointer (some ⟨bs,0,none⟩)] [c] fun v H'=>
  ∃p' cap' c',v= .slice p' σ.free.length cap'∧Vec 126 2 p' σ.free.length cap' (aAe σ.free) c'∧H'=[c',c]:=by
 obtain⟨n,free⟩:=σ
 obtain⟨p,cap,vc,rfl,hV,hfo,hn⟩:=h
 dsimp only at hV hfo hn⊢
 have hlen:=aDo hfo (k:=0) (by omega) (by omega)
 have hC:=bDa p free.length cap (aAe free) vc hV (by omega) (aFo free)
 refine Ct.conv (H2:=[[(bs,row (aAp n p free.length cap) 129)],vc]) (R2:=fun v H'=>∃p' cap' c',v= .slice p' free.length cap'∧Vec 126 2 p' free.length cap' (aAe free) c'∧H'=[c',[(bs,row (aAp n p free.length cap) 129)],vc]) ?_ (by simp) ?_
 ·unfold aAp
  refine Ct.intro Tryz.func106 rfl Tryz.ntmps106 (nle rfl) fun w0=> ?_;dsimp only[aAa,AD]
  repeat(refine st ?_;intros)
  refine R.call (hct:=hC) (h:= ?_)
  rintro _ _ ⟨p',cap',c',rfl,hV',rfl⟩
  try dsimp only[AA,AB]
  repeat(refine st ?_;intros)
  (refine Dn.post (Hr:=[c',[(bs,row [.int .i64 0,.int .i64 (n:Int),.slice p free.length cap] 129)],vc]) Tryz.results106 (hR:= ?_);exact⟨p',cap',c',rfl,hV',rfl⟩)
 ·rintro v H' ⟨p',cap',c',rfl,hV',rfl⟩
  exact⟨_,⟨p',cap',c',rfl,hV',rfl⟩,by simp⟩
theorem bHt (bs:Nat) (σ:Sp) (c:aAc) (h:aEr bs σ c):CtQ AC 58 [.pointer (some ⟨bs,0,none⟩)] [c] (.int .i64 (aBb σ.free:Int)):=by
 have hX:=bAr bs σ c h
 obtain⟨n,free⟩:=σ
 obtain⟨p,cap,vc,_,_,hfo,hn⟩:=h
 dsimp only at hfo hn hX⊢
 have hlen:=aDo hfo (k:=0) (by omega) (by omega)
 have htot:=aTm hfo (k:=0) (by omega) (by omega)
 refine Ct.intro Tryz.func58 rfl Tryz.ntmps58 (nle rfl) fun w0=> ?_;dsimp only[aAa,AD]
 repeat(refine st ?_;intros)
 refine R.call (hct:=hX) (h:= ?_)
 rintro _ _ ⟨p',cap',c',rfl,hV',rfl⟩
 try dsimp only[AA,AB]
 repeat(refine st ?_;intros)
 refine G.loop (X:=Nat) (fun i=>i≤free.length) (fun i=>[(9,.int .i64 (i:Int)),(8,.int .i64 (free.length:Int)),(7,.slice p' free.length cap'),(3,.int .i64 (aBb (free.take i):Int))])
  (fun _=>[c',c]) (fun i=>free.length-i) 0 (by omega) (body:= ?_)
 intro i hi
 by_cases hif:i<free.length
 ·obtain⟨A,x,B,hs,hA⟩:=aMw (l:=free) (i:=i) hif
  obtain⟨_,h0|⟨vb,rest,rfl,rfl,hrl,hmc,hcm⟩⟩:=hV'
  ·omega
  obtain⟨g1,g2,g3⟩:=aTl (rest:=rest) (B:=B) (e:=x) hA
  rw[←hs] at g1 g2 g3
  generalize aAe free++rest=cells at*
  have e1:free.take i=A:=by rw[hs,←hA];simp
  have e2:free.take (i+1)=A++[x]:=by rw[hs,←hA,List.take_length_add_append];rfl
  have e3:aBb free=aBb A+(x.2+aBb B):=by rw[hs];simp
  rw[e1]
  repeat(refine st ?_;intros)
  refine Dn.round (i+1) (by omega) (by omega) ?_ (by repeat(first|exact aAo.nil|(apply aAo.cons;·(repeat(first|exact aAn.here|apply aAn.there|exact aAn.nil)))))
  rw[e2,bCv,show aBb [x]=x.2 by simp]
  exact⟨rfl,rfl,rfl,rfl,trivial⟩
 ·obtain rfl:i=free.length:=by omega
  rw[List.take_length]
  repeat(refine st ?_;intros)
  (refine Dn.post (Hr:=[c]) Tryz.results58 (hR:= ?_);exact⟨rfl,rfl⟩)
def aAg (ws:List Int):List Value:=ws.map (Value.int .u64)
@[simp] theorem aBt (ws:List Int):(aAg ws).length=ws.length:=by simp[aAg]
theorem aLk (ws:List Int):(aAg ws).all Value.oneCell'=true:=by
 induction ws with
 |nil=>rfl
 |cons w ws ih=>simpa[aAg,Value.oneCell'] using ih
theorem aNu (b off n cap:Nat) (cs:List Value) (E:Nat) (fz:Nat×Nat) (ws:List Int) (hn:0<n) (hm:n≤1000000) (hws:(cs.drop off).take n=aAg ws) (hl:ws.length=n):
  Ct AC 168 [.slice (some ⟨b,off,none⟩) n cap] [[(b,aCa cs E fz)]] fun v H'=>
   ∃p cap' c',v= .slice p n cap'∧Vec 158 1 p n cap' (aAg ws) c'∧H'=[c',[(b,aCa cs E fz)]]:=by
 have hws1:(cs.drop off).take (n*1)=aAg ws:=by rw[Nat.mul_one];exact hws
 have hlen:(aAg ws).length=n*1:=by rw[aBt,hl,Nat.mul_one]
 have hall:=aLk ws
 refine Ct.intro Tryz.func168 rfl Tryz.ntmps168 (nle rfl) fun w0=> ?_;dsimp only[aAa,AD]
 repeat(refine st ?_;intros)
 rename_i b0
 have hV:Vec 158 1 (some ⟨b0,0,none⟩) 0 0 [] [(b0,row [] 158)]:=⟨by simp,.inr ⟨b0,[],rfl,rfl,by simp,AG _,by decide⟩⟩
 apply R.append
 ·exact rfl
 ·exact rfl
 ·exact hV
 ·repeat(first|exact aAn.here|apply aAn.there|exact aAn.nil)
 ·repeat(first|exact Has.here|apply Has.there)
 ·exact hws1
 ·exact hlen
 ·exact hall
 ·exact rfl
 ·exact hn
 ·simp only[maxLen];omega
 ·omega
 ·exact rfl
 ·exact nle rfl
 intro p' cap' c' hV'
 have hV2:Vec 158 1 p' n cap' (aAg ws) c':=by simpa using hV'
 repeat(refine st ?_;intros)
 (refine Dn.post (Hr:=[c',[(b,aCa cs E fz)]]) Tryz.results168 (hR:= ?_);exact⟨p',cap',c',by show Value.slice p' (0+n) cap'=_;rw[BR],hV2,rfl⟩)
def it {α:Type} (f:α→α):Nat→α→α
 |0,s=>s
 |j+1,s=>f (it f j s)
def bDb (u:Int):Int:=aGp .xor .u32 (u.fdiv (2^min (Int.toNat 1) IntKind.u32.bits)) (aGp .and .u32 3988292384 (IntKind.u32.wrap (-aGp .and .u32 u 1)))
def aJx (p:Int×Int):Int×Int:=(it bDb 8 (aGp .xor .u32 p.1 (IntKind.u32.wrap (aGp .and .u64 p.2 255))),p.2.fdiv (2^min (Int.toNat 8) IntKind.u64.bits))
def aTn (s x:Int):Int:=aFq .u32 (it aJx 8 (aFq .u32 s,x)).1
theorem aRm (s x:Int):CtQ AC 188 [.int .u32 s,.int .u64 x] [] (.int .u32 (aTn s x)):=by
 refine Ct.intro Tryz.func188 rfl Tryz.ntmps188 (nle rfl) fun w0=> ?_;dsimp only[aAa,AD]
 repeat(refine st ?_;intros)
 refine G.loop (X:=Nat) (fun i=>i≤8) (fun i=>[(8,.int .i64 (i:Int)),(5,.int .u32 (it aJx i (aFq .u32 s,x)).1),(1,.int .u64 (it aJx i (aFq .u32 s,x)).2)]) (fun _=>[]) (fun i=>8-i) 0 (by decide) (body:= ?_)
 intro i hi
 generalize hp:it aJx i (aFq .u32 s,x)=p
 obtain⟨t,y⟩:=p
 dsimp only
 by_cases h8:i<8
 ·repeat(refine st ?_;intros)
  refine G.loop (X:=Nat) (fun j=>j≤8) (fun j=>[(17,.int .i64 (j:Int)),(8,.int .i64 (i:Int)),(1,.int .u64 (y.fdiv (2^min (Int.toNat 8) IntKind.u64.bits))),(5,.int .u32 (it bDb j (aGp .xor .u32 t (IntKind.u32.wrap (aGp .and .u64 y 255)))))]) (fun _=>[]) (fun j=>8-j) 0 (by decide) (body:= ?_)
  intro j hj
  generalize hu:it bDb j (aGp .xor .u32 t (IntKind.u32.wrap (aGp .and .u64 y 255)))=u
  by_cases h9:j<8
  ·repeat(refine st ?_;intros)
   refine Dn.round (j+1) (by omega) (by omega) ?_ (by repeat(first|exact aAo.nil|(apply aAo.cons;·(repeat(first|exact aAn.here|apply aAn.there|exact aAn.nil)))))
   refine⟨rfl,rfl,rfl,?_,trivial⟩
   simp only[it,hu]
   rfl
  ·obtain rfl:j=8:=by omega
   repeat(refine st ?_;intros)
   refine Dn.round (i+1) (by omega) (by omega) ?_ (by repeat(first|exact aAo.nil|(apply aAo.cons;·(repeat(first|exact aAn.here|apply aAn.there|exact aAn.nil)))))
   have e:it aJx (i+1) (aFq .u32 s,x)=(u,y.fdiv (2^min (Int.toNat 8) IntKind.u64.bits)):=by
    show aJx (it aJx i (aFq .u32 s,x))=_
    rw[hp,←hu];rfl
   rw[e]
   exact⟨rfl,rfl,rfl,trivial⟩
 ·obtain rfl:i=8:=by omega
  have e:aFq .u32 t=aTn s x:=by unfold aTn;rw[hp]
  repeat(refine st ?_;intros)
  (refine Dn.post (Hr:=[]) Tryz.results188 (hR:= ?_);exact⟨by rw[←e];rfl,rfl⟩)
def aQa (ws:List Int):Int:=ws.foldl aTn 0
theorem aTo {cs:List Value} {off n:Nat} {ws:List Int} (h:(cs.drop off).take n=aAg ws) (hl:ws.length=n) {i:Nat} (hi:i<n):cs[off+i]? =some (.int .u64 (ws.getD i 0)):=by
 have h2:=congrArg (·[i]?) h
 simp only[BV,hi,if_true,BS] at h2
 rw[h2]
 have hi':i<ws.length:=by omega
 simp[aAg,AN,hi']
theorem Sum_ct (b off n cap:Nat) (cs:List Value) (E:Nat) (fz:Nat×Nat) (ws:List Int) (hm:n≤1000000) (hws:(cs.drop off).take n=aAg ws) (hl:ws.length=n):
  CtQ AC 189 [.slice (some ⟨b,off,none⟩) n cap] [[(b,aCa cs E fz)]] (.int .u32 (aQa ws)):=by
 refine Ct.intro Tryz.func189 rfl Tryz.ntmps189 (nle rfl) fun w0=> ?_;dsimp only[aAa,AD]
 repeat(first|(refine st ?_;intros)|(refine cq aRm ?_))
 refine G.loop (X:=Nat) (fun i=>i≤n) (fun i=>[(8,.int .i64 (i:Int)),(7,.int .i64 (n:Int)),(6,.slice (some ⟨b,off,none⟩) n cap),(3,.int .u32 ((ws.take i).foldl aTn 0))]) (fun _=>[[(b,aCa cs E fz)]]) (fun i=>n-i) 0 (by omega) (body:= ?_)
 intro i hi
 by_cases h9:i<n
 ·have hg:=aTo hws hl h9
  have e:(ws.take (i+1)).foldl aTn 0=aTn ((ws.take i).foldl aTn 0) (ws.getD i 0):=by
   rw[List.take_add_one,List.foldl_append]
   have hi':i<ws.length:=by omega
   simp[AN,hi']
  repeat(first|(refine st ?_;intros)|(refine cq aRm ?_))
  refine Dn.round (i+1) (by omega) (by omega) ?_ (by repeat(first|exact aAo.nil|(apply aAo.cons;·(repeat(first|exact aAn.here|apply aAn.there|exact aAn.nil)))))
  rw[e]
  exact⟨rfl,rfl,rfl,rfl,trivial⟩
 ·obtain rfl:i=n:=by omega
  have e:(ws.take i).foldl aTn 0=aQa ws:=by unfold aQa;rw[A4 (by omega)]
  rw[e]
  repeat(first|(refine st ?_;intros)|(refine cq aRm ?_))
  (refine Dn.post (Hr:=[[(b,aCa cs E fz)]]) Tryz.results189 (hR:= ?_);exact⟨rfl,rfl⟩)
theorem aYz (size address:Int) (h:8≤size∧size≤256) (ha:0≤address):CtQ AC 169 [.int .i64 size,.int .i64 address] [] (.bool true):=by
 obtain⟨h1,h2⟩:=h
 refine Ct.intro Tryz.func169 rfl Tryz.ntmps169 (nle rfl) fun w0=> ?_;dsimp only[aAa,AD]
 repeat(refine st ?_;intros)
 (refine Dn.post (Hr:=[]) Tryz.results169 (hR:= ?_);exact⟨by first|rfl|(rw[aBq (by omega)];rfl),rfl⟩)
def aWq (ws:List Int) (n address:Int):Int:=
 aGp .or .u64 (IntKind.u64.wrap ((n+1)*2^min (Int.toNat 32) IntKind.u64.bits)) (IntKind.u64.wrap (aTn (aTn (aQa ws) (n+1)) address))
theorem bDc (b n m cap:Nat) (address:Int) (cs:List Value) (E:Nat) (fz:Nat×Nat) (ws:List Int) (hm:m≤256) (hm1:1≤m) (hcap:m≤cap) (hn:n≤256) (ha:0≤address∧address≤1000000000) (hws:(cs.drop 0).take (m-1)=aAg ws) (hl:ws.length=m-1):
  CtQ AC 170 [.slice (some ⟨b,0,none⟩) m cap,.int .i64 (n:Int),.int .i64 address] [[(b,aCa cs E fz)]] (.int .u64 (aWq ws n address)):=by
 have hS:=fun cap=>Sum_ct b 0 (m-1) cap cs E fz ws (by omega) hws hl
 have e1:((m:Int)-1).toNat=m-1:=by omega
 refine Ct.intro Tryz.func170 rfl Tryz.ntmps170 (nle rfl) fun w0=> ?_;dsimp only[aAa,AD]
 repeat(first|(refine st ?_;intros)|(refine cq hS ?_)|(refine cq aRm ?_))
 (refine Dn.post (Hr:=[[(b,aCa cs E fz)]]) Tryz.results170 (hR:= ?_);exact⟨rfl,rfl⟩)
def aHk (size:Nat) (tag:Int) (pw:List Int):List Int:=(pw++BW (size-pw.length) 0).set (size-2) tag
def aDd (size:Nat) (address tag:Int) (pw:List Int):List Int:=(aHk size tag pw).set (size-1) (aWq ((aHk size tag pw).take (size-1)) pw.length address)
theorem bKh (m:Nat):aEn m [.int .u64 0]=aAg (BW m 0):=by
 induction m with
 |zero=>rfl
 |succ m ih=>rw[aEn,ih];rfl
theorem aGr (ws:List Int) (i:Nat) (w:Int):(aAg ws).set i (.int .u64 w)=aAg (ws.set i w):=by
 unfold aAg;rw[List.map_set]
theorem setL_w {size:Nat} {pw:List Int} (h:pw.length≤size):aFi (aEn size [.int .u64 0]) 0 (aAg pw)=aAg (pw++BW (size-pw.length) 0):=by
 rw[bKh,aFs _ _ _ (by simp[aBt];exact h)]
 simp[aAg]
theorem bKi (size:Nat) (address tag:Int) (b q m cap:Nat) (cs:List Value) (E:Nat) (fz:Nat×Nat) (pw:List Int) (hs:8≤size∧size≤256) (ha:0≤address∧address≤1000000000) (hm:m≤size-2) (hws:(cs.drop q).take m=aAg pw) (hl:pw.length=m):
  Ct AC 156 [.int .i64 (size:Int),.int .i64 address,.int .u64 tag,.slice (some ⟨b,q,none⟩) m cap] [[(b,aCa cs E fz)]] fun v H'=>
   ∃bl,v= .tuple #[.slice (some ⟨bl,0,none⟩) size size,.int .i64 0]∧H'=[[(bl,row (aAg (aDd size address tag pw)) 158)],[(b,aCa cs E fz)]]:=by
 have hR:=aYz (size:Int) address (by omega) ha.1
 have hbl:(aHk size tag pw).length=size:=by simp[aHk];omega
 have hset:=setL_w (size:=size) (pw:=pw) (by omega)
 have hset2:(aAg (pw++BW (size-pw.length) 0)).set (size-2) (.int .u64 tag)=aAg (aHk size tag pw):=aGr (pw++BW (size-pw.length) 0) (size-2) tag
 have hL:=fun bl=>bDc bl m size size address (aAg (aHk size tag pw)) 158 (0,0) ((aHk size tag pw).take (size-1)) (by omega) (by omega) (AG _) (by omega) ha (by simp[aAg,List.map_take]) (by simp[hbl])
 have hset3:(aAg (aHk size tag pw)).set (size-1) (.int .u64 (aWq ((aHk size tag pw).take (size-1)) m address))=aAg (aDd size address tag pw):=by unfold aDd;rw[aGr,hl]
 have e1:((size:Int)-2).toNat=size-2:=by omega
 have e2:((size:Int)-1).toNat=size-1:=by omega
 have hmin:Nat.min m size=m:=C0 (by omega)
 have hpl:(aAg pw).length=m:=by rw[aBt,hl]
 have hpa:=aLk pw
 have hzl:(aEn size [Value.int .u64 0]).length=size:=by rw[aCi];simp
 refine Ct.intro Tryz.func156 rfl Tryz.ntmps156 (nle rfl) fun w0=> ?_;dsimp only[aAa,AD]
 repeat(first|(refine st ?_;intros)|(refine cq hR ?_)|(refine cq hL ?_))
 rename_i bl
 (refine Dn.post (Hr:=[[(bl,row (aAg (aDd size address tag pw)) 158)],[(b,aCa cs E fz)]]) Tryz.results156 (hR:= ?_);exact⟨bl,rfl,rfl⟩)
theorem aWr (x:Int):CtQ AC 172 [.int .u64 x] [] (.bool (dec (x≠0))):=by
 refine Ct.intro Tryz.func172 rfl Tryz.ntmps172 (nle rfl) fun w0=> ?_;dsimp only[aAa,AD]
 repeat(refine st ?_;intros)
 (refine Dn.post (Hr:=[]) Tryz.results172 (hR:= ?_);exact⟨rfl,rfl⟩)
theorem bDd (b off n cap:Nat) (cs:List Value) (E:Nat) (fz:Nat×Nat) (ws:List Int) (hm:n≤1000000) (hws:(cs.drop off).take n=aAg ws) (hl:ws.length=n) (hz:∀w∈ws,w=0):
  CtQ AC 190 [.slice (some ⟨b,off,none⟩) n cap,.func (.func 172) #[] #[]] [[(b,aCa cs E fz)]] (.int .i64 (-1)):=by
 refine Ct.intro Tryz.func190 rfl Tryz.ntmps190 (nle rfl) fun w0=> ?_;dsimp only[aAa,AD]
 repeat(first|(refine st ?_;intros)|(refine cq aWr ?_))
 refine G.loop (X:=Nat) (fun i=>i≤n) (fun i=>[(8,.int .i64 (i:Int)),(7,.int .i64 (n:Int)),(0,.slice (some ⟨b,off,none⟩) n cap),(1,.func (.func 172) #[] #[])]) (fun _=>[[(b,aCa cs E fz)]]) (fun i=>n-i) 0 (by omega) (body:= ?_)
 intro i hi
 by_cases h9:i<n
 ·have hg:=aTo hws hl h9
  have h0:ws.getD i 0=0:=by
   have hi':i<ws.length:=by omega
   rw[AN,AE hi']
   exact hz _ (List.getElem_mem hi')
  rw[h0] at hg
  repeat(first|(refine st ?_;intros)|(refine cq aWr ?_))
  exact Dn.round (i+1) (by omega) (by omega)
 ·repeat(first|(refine st ?_;intros)|(refine cq aWr ?_))
  (refine Dn.post (Hr:=[[(b,aCa cs E fz)]]) Tryz.results190 (hR:= ?_);exact⟨rfl,rfl⟩)
theorem aTp (b off n cap:Nat) (cs:List Value) (E:Nat) (fz:Nat×Nat) (ws:List Int) (hm:n≤1000000) (hws:(cs.drop off).take n=aAg ws) (hl:ws.length=n) (hz:∀w∈ws,w=0):
  CtQ AC 171 [.slice (some ⟨b,off,none⟩) n cap,.func (.func 172) #[] #[]] [[(b,aCa cs E fz)]] (.bool false):=by
 have hI:=bDd b off n cap cs E fz ws hm hws hl hz
 refine Ct.intro Tryz.func171 rfl Tryz.ntmps171 (nle rfl) fun w0=> ?_;dsimp only[aAa,AD]
 repeat(first|(refine st ?_;intros)|(refine cq hI ?_))
 (refine Dn.post (Hr:=[[(b,aCa cs E fz)]]) Tryz.results171 (hR:= ?_);exact⟨by rw[aCm (by decide)];rfl,rfl⟩)
theorem bAs (s x:Int):0≤aTn s x∧aTn s x<4294967296:=by
 unfold aTn aFq aGp
 simp only[AH,IntKind.bits,IntKind.signed,Bool.false_and]
 simp
 omega
theorem bDe (ws:List Int) (n:Nat) (a:Int) (hn:n≤256):(aWq ws n a).fdiv (2^min (Int.toNat 32) IntKind.u64.bits)=(n:Int)+1:=by
 unfold aWq
 have hc:=bAs (aTn (aQa ws) ((n:Int)+1)) a
 generalize aTn (aTn (aQa ws) ((n:Int)+1)) a=c at hc
 obtain⟨c,rfl⟩:∃k:Nat,c=(k:Int):=⟨c.toNat,by omega⟩
 have e0:(2:Int)^min (Int.toNat 32) IntKind.u64.bits=4294967296:=by decide
 rw[e0,aBz (by omega),aBz (by omega)]
 have e1:((n:Int)+1)*4294967296=(((n+1)*4294967296:Nat):Int):=by omega
 rw[e1]
 have e3:aGp .or .u64 (((n+1)*4294967296:Nat):Int) (c:Int)=IntKind.u64.wrap ((BitVec.ofInt 64 (((n+1)*4294967296:Nat):Int)|||BitVec.ofInt 64 (c:Int)).toNat:Int):=rfl
 rw[e3,BitVec.toNat_or,BitVec.ofInt_natCast,BitVec.ofInt_natCast,BitVec.toNat_ofNat,BitVec.toNat_ofNat]
 rw[Nat.mod_eq_of_lt (by omega),Nat.mod_eq_of_lt (by omega)]
 have e2:(n+1)*4294967296|||c=(n+1)*4294967296+c:=by
  have:=Nat.shiftLeft_add_eq_or_of_lt (a:=n+1) (b:=c) (i:=32) (by omega)
  rw[Nat.shiftLeft_eq] at this
  exact this.symm
 rw[e2,aBz (by omega)]
 rw[Int.fdiv_eq_ediv_of_nonneg _ (by decide)]
 omega
theorem aIh (size:Nat) (address tag:Int) (pw:List Int) (h:pw.length≤size):(aDd size address tag pw).length=size:=by simp[aDd,aHk];omega
theorem aQb (size:Nat) (address tag:Int) (pw:List Int):(aDd size address tag pw).take (size-1)=(aHk size tag pw).take (size-1):=by
 unfold aDd
 rw[List.take_set_of_le (AG _)]
theorem bAt (size:Nat) (address tag:Int) (pw:List Int) (hs:8≤size) (h:pw.length≤size-2):(aDd size address tag pw).getD (size-1) 0=aWq ((aHk size tag pw).take (size-1)) pw.length address:=by
 have:(aHk size tag pw).length=size:=by simp[aHk];omega
 simp[aDd,AN,this,show size-1<size by omega]
theorem aTq (size:Nat) (address tag:Int) (pw:List Int) (hs:8≤size) (h:pw.length≤size-2) (i:Nat) (hi:i<size-2):(aDd size address tag pw).getD i 0=pw.getD i 0:=by
 unfold aDd aHk
 simp only[AN]
 rw[CR (by omega),CR (by omega),List.getElem?_append]
 split
 ·rfl
 ·rename_i hh
  rw[List.getElem?_replicate,if_pos (by omega),BC (by omega)]
  rfl
theorem bDf (size:Nat) (address tag:Int) (pw:List Int) (hs:8≤size) (h:pw.length≤size-2):(aDd size address tag pw).getD (size-2) 0=tag:=by
 unfold aDd aHk
 simp only[AN]
 rw[CR (by omega),List.getElem?_set_self (by simp;omega)]
 rfl
theorem w_get {ws:List Int} {rest:List Value} {i:Nat} {v:Int} (hi:i<ws.length) (h:ws.getD i 0=v):(aAg ws++rest)[i]? =some (.int .u64 v):=by
 rw[A7 (by simpa using hi)]
 rw[AN,AE hi] at h
 simp only[Option.getD_some] at h
 simp[aAg,AE hi,h]
theorem bKj {ws:List Int} {rest:List Value} {k:Nat} (hk:k≤ws.length):((aAg ws++rest).drop 0).take k=aAg (ws.take k):=by
 rw[List.drop_zero,CK (by simpa using hk)]
 simp[aAg,List.map_take]
theorem w_drop {ws:List Int} {rest:List Value} {a k:Nat} (hk:a+k≤ws.length):((aAg ws++rest).drop a).take k=aAg ((ws.drop a).take k):=by
 rw[CX (by simp;omega),CK (by simp;omega)]
 simp[aAg,List.map_take,List.map_drop]
theorem Get_ct (size address tag:Nat) (pw:List Int) (b cap:Nat) (rest:List Value) (E:Nat) (hs:8≤size∧size≤256) (hcap:size≤cap) (ha:address≤1000000000) (n:Nat) (hn:n=pw.length) (h1:1≤n) (h2:n≤size-2):
  Ct AC 144 [.slice (some ⟨b,0,none⟩) size cap,.int .i64 (address:Int)] [[(b,row (aAg (aDd size address tag pw)++rest) E)]] fun v H'=>
   ∃p cap' c',v= .tuple #[.slice p n cap',.int .u64 (tag:Int),.int .i64 0]∧Vec 158 1 p n cap' (aAg pw) c'∧H'=[c',[(b,row (aAg (aDd size address tag pw)++rest) E)]]:=by
 subst hn
 obtain⟨hs1,hs2⟩:=hs
 have hR:=aYz (size:Int) (address:Int) (by omega) (by omega)
 have hlen:=aIh size address tag pw (by omega)
 have hlast:=w_get (rest:=rest) (by omega) (bAt size address tag pw hs1 h2)
 have htag:=w_get (rest:=rest) (by omega) (bDf size address tag pw hs1 h2)
 have hL:=bDc b pw.length size cap (address:Int) (aAg (aDd size address tag pw)++rest) E (0,0) ((aHk size tag pw).take (size-1)) (by omega) (by omega) hcap (by omega) (by omega)
  (by rw[←aQb size address tag pw];exact bKj (by omega)) (by rw[←aQb size address tag pw];simp;omega)
 have hCF:=aTp b pw.length (size-2-pw.length) (cap-pw.length) (aAg (aDd size address tag pw)++rest) E (0,0) (((aDd size address tag pw).drop pw.length).take (size-2-pw.length)) (by omega) (w_drop (by omega)) (by simp;omega) (by
  intro w hw
  obtain⟨i,hi⟩:=List.getElem?_of_mem hw
  rw[BV] at hi
  split at hi
  ·rw[BS] at hi
   have:=aTq size address tag pw hs1 h2 (pw.length+i) (by omega)
   rw[AN,hi,AN,BC (by omega)] at this
   simpa using this
  ·cases hi)
 have hC:=aNu b 0 pw.length cap (aAg (aDd size address tag pw)++rest) E (0,0) pw h1 (by omega) (by
  rw[bKj (by omega)]
  congr 1
  apply List.ext_getElem
  ·simp;omega
  ·intro i i1 i2
   have:=aTq size address tag pw hs1 h2 i (by omega)
   simp only[AN,AE i2] at this
   rw[AE (by omega)] at this
   simpa using this) rfl
 have hshr:=bDe ((aHk size tag pw).take (size-1)) pw.length (address:Int) (by omega)
 generalize aWq ((aHk size tag pw).take (size-1)) pw.length (address:Int)=lw at*
 have e1:((size:Int)-1).toNat=size-1:=by omega
 have e2:((size:Int)-2).toNat=size-2:=by omega
 have e3:((pw.length:Int)+1-1)=(pw.length:Int):=by omega
 have e4:(((pw.length:Int)+1)-1).toNat=pw.length:=by omega
 have e5:AH .i64 ((pw.length:Int)+1-1)=(pw.length:Int):=by rw[e3];exact aAd (by omega)
 have e6:dec (lw≠lw)=false:=aCm (by simp)
 generalize aAg (aDd size address tag pw)++rest=cells at*
 refine Ct.intro Tryz.func144 rfl Tryz.ntmps144 (nle rfl) fun w0=> ?_;dsimp only[aAa,AD]
 repeat(first|(refine st ?_;intros)|refine G.draw (id:=5) [(17,.quiet),(26,.quiet)] (h:= ?_)|refine G.drawOrd (id:=7) [0,1,2,4,5,6,7,8,3,9,10,11] [(3,.eff [8])] (h:= ?_)|(refine cq hR ?_)|(refine cq hL ?_)|(refine cq hCF ?_))
 refine R.callX (hct:=hC) (h:= ?_)
 rintro _ _ ⟨p,cap',c',rfl,hV,rfl⟩
 try dsimp only[AA,AB]
 refine nx ?_
 repeat(first|(refine st ?_;intros)|refine G.draw (id:=5) [(17,.quiet),(26,.quiet)] (h:= ?_)|refine G.drawOrd (id:=7) [0,1,2,4,5,6,7,8,3,9,10,11] [(3,.eff [8])] (h:= ?_)|(refine cq hR ?_)|(refine cq hL ?_)|(refine cq hCF ?_))
 (refine Dn.post (Hr:=[c',[(b,row cells E)]]) Tryz.results144 (hR:= ?_);exact⟨p,cap',c',rfl,hV,rfl⟩)
def aBf (size blocks:Nat) (bl bn:Nat) (pp:Option Addr) (np cp:Nat) (fault:Int) (acts:Nat):List Value:=
 [.int .i64 (size:Int),.int .i64 (blocks:Int),.map (some bl),.map (some bn),.slice pp np cp,.int .i64 (-1),.int .i64 fault,.bool false,.int .i64 (acts:Int)]
section
variable (bd size blocks bl bn:Nat) (pp:Option Addr) (np cp:Nat) (fault:Int) (acts:Nat)
theorem aJb:CtQ AC 166 [.pointer (some ⟨bd,0,none⟩)] [[(bd,row (aBf size blocks bl bn pp np cp fault acts) 115)]] (.bool false):=by
 unfold aBf
 refine Ct.intro Tryz.func166 rfl Tryz.ntmps166 (nle rfl) fun w0=> ?_;dsimp only[aAa,AD]
 repeat(refine st ?_;intros)
 (refine Dn.post (Hr:=[[(bd,row [.int .i64 (size:Int),.int .i64 (blocks:Int),.map (some bl),.map (some bn),.slice pp np cp,.int .i64 (-1),.int .i64 fault,.bool false,.int .i64 (acts:Int)] 115)]]) Tryz.results166 (hR:= ?_);exact⟨rfl,rfl⟩)
theorem aTr:Ct AC 167 [.pointer (some ⟨bd,0,none⟩)] [[(bd,row (aBf size blocks bl bn pp np cp 0 acts) 115)]] fun v H'=>
  v= .int .i64 6∧H'=[[(bd,row (aBf size blocks bl bn pp np cp (-1) acts) 115)]]:=by
 unfold aBf
 refine Ct.intro Tryz.func167 rfl Tryz.ntmps167 (nle rfl) fun w0=> ?_;dsimp only[aAa,AD]
 repeat(refine st ?_;intros)
 (refine Dn.post (Hr:=[[(bd,row [.int .i64 (size:Int),.int .i64 (blocks:Int),.map (some bl),.map (some bn),.slice pp np cp,.int .i64 (-1),.int .i64 (-1),.bool false,.int .i64 (acts:Int)] 115)]]) Tryz.results167 (hR:= ?_);exact⟨rfl,rfl⟩)
def aTs (fault:Int):Int:=if 0<fault then fault-1 else fault
theorem bKk (hf:fault≠0) (hb: -1≤fault∧fault≤1000000000) (ha:acts≤1000000000000):Ct AC 167 [.pointer (some ⟨bd,0,none⟩)] [[(bd,row (aBf size blocks bl bn pp np cp fault acts) 115)]] fun v H'=>
  v= .int .i64 0∧H'=[[(bd,row (aBf size blocks bl bn pp np cp (aTs fault) (acts+1)) 115)]]:=by
 unfold aBf aTs
 by_cases h0:0<fault
 ·rw[if_pos h0]
  refine Ct.intro Tryz.func167 rfl Tryz.ntmps167 (nle rfl) fun w0=> ?_;dsimp only[aAa,AD]
  repeat(refine st ?_;intros)
  (refine Dn.post (Hr:=[[(bd,row [.int .i64 (size:Int),.int .i64 (blocks:Int),.map (some bl),.map (some bn),.slice pp np cp,.int .i64 (-1),.int .i64 (fault-1),.bool false,.int .i64 ((acts:Int)+1)] 115)]]) Tryz.results167 (hR:= ?_);exact⟨rfl,rfl⟩)
 ·rw[if_neg h0]
  refine Ct.intro Tryz.func167 rfl Tryz.ntmps167 (nle rfl) fun w0=> ?_;dsimp only[aAa,AD]
  repeat(refine st ?_;intros)
  (refine Dn.post (Hr:=[[(bd,row [.int .i64 (size:Int),.int .i64 (blocks:Int),.map (some bl),.map (some bn),.slice pp np cp,.int .i64 (-1),.int .i64 fault,.bool false,.int .i64 ((acts:Int)+1)] 115)]]) Tryz.results167 (hR:= ?_);exact⟨rfl,rfl⟩)
end
theorem aTt (size blocks:Nat) (hs:8≤size∧size≤256) (hb:blocks≤1000000):Ct AC 37 [.int .i64 (size:Int),.int .i64 (blocks:Int)] [] fun v H'=>
  ∃bd bl bn,v= .tuple #[.pointer (some ⟨bd,0,none⟩),.int .i64 0]∧H'=[[(bd,row (aBf size blocks bl bn none 0 0 (-1) 0) 115)],[(bn,.map #[] 0)]]:=by
 refine Ct.intro Tryz.func37 rfl Tryz.ntmps37 (nle rfl) fun w0=> ?_;dsimp only[aAa,AD]
 repeat(refine st ?_;intros)
 rename_i bl bn bd
 (refine Dn.post (Hr:=[[(bd,row (aBf size blocks bl bn none 0 0 (-1) 0) 115)],[(bn,.map #[] 0)]]) Tryz.results37 (hR:= ?_);exact⟨bd,bl,bn,rfl,rfl⟩)
end Go.Proofs.YtammjnjpheobaaaGreat
