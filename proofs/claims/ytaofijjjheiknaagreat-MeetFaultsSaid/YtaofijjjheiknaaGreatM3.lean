/-
  Parts of the proof, put together (3). No condition.
-/
import Derived.Test.YtaofijjjheiknaaGreatProg
import Derived.Test.YtaofijjjheiknaaGreatM2
set_option linter.unusedVariables false
set_option linter.unusedSimpArgs false
set_option linter.unnecessarySimpa false
set_option maxHeartbeats 4000000
open Go.Proofs.Tryz renaming prog→AC,sizeOf3→BZ,underlying3→CL,underlying187→DR,underlying116→EB,underlying180→EC,sizeOf4→EI
open List renaming cons_append→AA,nil_append→AB,length_append→AF,mem_cons_self→AH,mem_cons_of_mem→AI,length_cons→AL,mem_cons→AM,append_assoc→AP,append_nil→AQ,length_nil→AV,mem_of_getElem?→A3,take_of_length_le→A4,getElem?_append_right→A9,getElem?_append_left→BI,length_take→BN,take_append_drop→BV,length_drop→CK,drop_append_of_le_length→CY
open Nat renaming reduceAdd→AD,add_zero→CD,min_eq_left→C0,le_of_lt→EJ
namespace Go.Proofs.YtaofijjjheiknaaGreat
open Go.SL
set_option maxRecDepth 100000
instance:Cell1 AC 2:=⟨Tryz.isAgg2,Tryz.sizeOf2⟩
instance:IntT AC 2 .i64:=⟨Tryz.underlying2⟩
instance:ZeroV AC 2 [.int .i64 0]:=⟨_,rfl,Tryz.zeroValue2⟩
instance:ElemT AC 2 1 8 [.int .i64 0]:=⟨by kernel_rfl⟩
instance:Cell1 AC 3:=⟨Tryz.isAgg3,BZ⟩
instance:IntT AC 3 .i64:=⟨CL⟩
instance:ElemT AC 3 1 8 [.int .i64 0]:=⟨by kernel_rfl⟩
instance:Cell1 AC 4:=⟨Tryz.isAgg4,EI⟩
instance:BoolT AC 4:=⟨Tryz.underlying4⟩
instance:ElemT AC 4 1 1 [.bool false]:=⟨by kernel_rfl⟩
instance:Cell1 AC 5:=⟨Tryz.isAgg5,Tryz.sizeOf5⟩
instance:IntT AC 5 .u8:=⟨Tryz.underlying5⟩
instance:Cell1 AC 22:=⟨Tryz.isAgg22,Tryz.sizeOf22⟩
instance:SliceT AC 22 53 2:=⟨Tryz.underlying22,Tryz.sizeOf53⟩
instance:AggN AC 24 2:=⟨Tryz.isAgg24,Tryz.sizeOf24⟩
instance:FieldOff AC 24 0 0:=FieldOff.of (m:=0) _ _ Tryz.underlying24 rfl rfl BZ
instance:FieldOff AC 24 1 1:=FieldOff.of (m:=0) _ _ Tryz.underlying24 rfl rfl Tryz.sizeOf22
instance:BuildT AC 24 (fun i=>([(0,1),(1,1)]:List (Nat×Nat))[i]?) [.int .i64 0,.slice none 0 0]:=BuildT.ofS (fun parts=>by kernel_rfl)
instance:ZeroV AC 24 [.int .i64 0,.slice none 0 0]:=⟨_,rfl,Tryz.zeroValue24⟩
instance:Cell1 AC 28:=⟨Tryz.isAgg28,Tryz.sizeOf28⟩
instance:SliceT AC 28 33 5:=⟨Tryz.underlying28,Tryz.sizeOf33⟩
instance:AggN AC 30 5:=⟨Tryz.isAgg30,Tryz.sizeOf30⟩
instance:FieldOff AC 30 0 0:=FieldOff.of (m:=0) _ _ Tryz.underlying30 rfl rfl Tryz.sizeOf28
instance:FieldOff AC 30 1 1:=FieldOff.of (m:=0) _ _ Tryz.underlying30 rfl rfl Tryz.sizeOf28
instance:FieldOff AC 30 2 2:=FieldOff.of (m:=0) _ _ Tryz.underlying30 rfl rfl Tryz.sizeOf28
instance:FieldOff AC 30 3 3:=FieldOff.of (m:=0) _ _ Tryz.underlying30 rfl rfl Tryz.sizeOf28
instance:FieldOff AC 30 4 4:=FieldOff.of (m:=0) _ _ Tryz.underlying30 rfl rfl Tryz.sizeOf28
instance:ZeroV AC 30 [.slice none 0 0,.slice none 0 0,.slice none 0 0,.slice none 0 0,.slice none 0 0]:=⟨_,rfl,Tryz.zeroValue30⟩
instance:AggN AC 33 5:=⟨Tryz.isAgg33,Tryz.sizeOf33⟩
instance:ArrT AC 33 5 2 1:=⟨Tryz.underlying33,Tryz.sizeOf2⟩
instance:BuildT AC 33 (fun i=>some (i*1,1)) [.int .i64 0,.int .i64 0,.int .i64 0,.int .i64 0,.int .i64 0]:=⟨fun parts=>by kernel_rfl⟩
instance:Eq5 AC 33:=Eq5.of Tryz.underlying33 Tryz.underlying2 Tryz.type2 Tryz.isAgg2 (by kernel_rfl) Tryz.eqGuardType33
instance:ZeroV AC 33 [.int .i64 0,.int .i64 0,.int .i64 0,.int .i64 0,.int .i64 0]:=⟨_,rfl,Tryz.zeroValue33⟩
instance:ElemT AC 33 5 40 [.int .i64 0,.int .i64 0,.int .i64 0,.int .i64 0,.int .i64 0]:=⟨by kernel_rfl⟩
instance:Cell1 AC 34:=⟨Tryz.isAgg34,Tryz.sizeOf34⟩
instance:SliceT AC 34 42 4:=⟨Tryz.underlying34,Tryz.sizeOf42⟩
instance:Cell1 AC 35:=⟨Tryz.isAgg35,Tryz.sizeOf35⟩
instance:Cell1 AC 38:=⟨Tryz.isAgg38,Tryz.sizeOf38⟩
instance:PtrT AC 38:=⟨by kernel_rfl⟩
instance:ArrT AC 40 4 5 1:=⟨Tryz.underlying40,Tryz.sizeOf5⟩
instance:AggN AC 42 4:=⟨Tryz.isAgg42,Tryz.sizeOf42⟩
instance:FieldOff AC 42 0 0:=FieldOff.of (m:=0) _ _ Tryz.underlying42 rfl rfl BZ
instance:FieldOff AC 42 1 1:=FieldOff.of (m:=0) _ _ Tryz.underlying42 rfl rfl BZ
instance:FieldOff AC 42 2 2:=FieldOff.of (m:=0) _ _ Tryz.underlying42 rfl rfl BZ
instance:FieldOff AC 42 3 3:=FieldOff.of (m:=0) _ _ Tryz.underlying42 rfl rfl BZ
instance:BuildT AC 42 (fun i=>([(0,1),(1,1),(2,1),(3,1)]:List (Nat×Nat))[i]?) [.int .i64 0,.int .i64 0,.int .i64 0,.int .i64 0]:=BuildT.ofS (fun parts=>by kernel_rfl)
instance:Eq4 AC 42:=Eq4.of Tryz.underlying42 oA14 ⟨rfl,rfl,rfl,rfl⟩ CL Tryz.isAgg3 Tryz.eqGuardType42 Tryz.stoodInHeld42
instance:ZeroV AC 42 [.int .i64 0,.int .i64 0,.int .i64 0,.int .i64 0]:=⟨_,rfl,Tryz.zeroValue42⟩
instance:ElemT AC 42 4 32 [.int .i64 0,.int .i64 0,.int .i64 0,.int .i64 0]:=⟨by kernel_rfl⟩
instance:AggN AC 43 16:=⟨Tryz.isAgg43,Tryz.sizeOf43⟩
instance:ArrT AC 43 4 42 4:=⟨Tryz.underlying43,Tryz.sizeOf42⟩
instance:BuildT AC 43 (fun i=>some (i*4,4)) [.int .i64 0,.int .i64 0,.int .i64 0,.int .i64 0,.int .i64 0,.int .i64 0,.int .i64 0,.int .i64 0,.int .i64 0,.int .i64 0,.int .i64 0,.int .i64 0,.int .i64 0,.int .i64 0,.int .i64 0,.int .i64 0]:=⟨fun parts=>by kernel_rfl⟩
instance:ZeroV AC 43 [.int .i64 0,.int .i64 0,.int .i64 0,.int .i64 0,.int .i64 0,.int .i64 0,.int .i64 0,.int .i64 0,.int .i64 0,.int .i64 0,.int .i64 0,.int .i64 0,.int .i64 0,.int .i64 0,.int .i64 0,.int .i64 0]:=⟨_,rfl,Tryz.zeroValue43⟩
instance:Cell1 AC 46:=⟨Tryz.isAgg46,Tryz.sizeOf46⟩
instance:PtrT AC 46:=⟨by kernel_rfl⟩
instance:AggN AC 53 2:=⟨Tryz.isAgg53,Tryz.sizeOf53⟩
instance:FieldOff AC 53 0 0:=FieldOff.of (m:=0) _ _ Tryz.underlying53 rfl rfl BZ
instance:FieldOff AC 53 1 1:=FieldOff.of (m:=0) _ _ Tryz.underlying53 rfl rfl BZ
instance:BuildT AC 53 (fun i=>([(0,1),(1,1)]:List (Nat×Nat))[i]?) [.int .i64 0,.int .i64 0]:=BuildT.ofS (fun parts=>by kernel_rfl)
instance:ZeroV AC 53 [.int .i64 0,.int .i64 0]:=⟨_,rfl,Tryz.zeroValue53⟩
instance:ElemT AC 53 2 16 [.int .i64 0,.int .i64 0]:=⟨by kernel_rfl⟩
instance:IntT AC 63 .u16:=⟨Tryz.underlying63⟩
instance:Cell1 AC 66:=⟨Tryz.isAgg66,Tryz.sizeOf66⟩
instance:PtrT AC 66:=⟨by kernel_rfl⟩
instance:Cell1 AC 82:=⟨Tryz.isAgg82,Tryz.sizeOf82⟩
instance:PtrT AC 82:=⟨by kernel_rfl⟩
instance:Cell1 AC 84:=⟨Tryz.isAgg84,Tryz.sizeOf84⟩
instance:ZeroV AC 84 [.pointer none]:=⟨_,rfl,Tryz.zeroValue84⟩
instance:Cell1 AC 90:=⟨Tryz.isAgg90,Tryz.sizeOf90⟩
instance:Cell1 AC 91:=⟨Tryz.isAgg91,Tryz.sizeOf91⟩
instance:FieldOff AC 98 0 0:=FieldOff.of (m:=0) _ _ Tryz.underlying98 rfl rfl Tryz.sizeOf38
instance:FieldOff AC 98 1 1:=FieldOff.of (m:=0) _ _ Tryz.underlying98 rfl rfl Tryz.sizeOf35
instance:FieldOff AC 98 2 2:=FieldOff.of (m:=0) _ _ Tryz.underlying98 rfl rfl Tryz.sizeOf34
instance:BuildT AC 98 (fun i=>([(0,1),(1,1),(2,1)]:List (Nat×Nat))[i]?) [.pointer none,.int .i64 0,.slice none 0 0]:=BuildT.ofS (fun parts=>by kernel_rfl)
instance:AggN AC 102 5:=⟨Tryz.isAgg102,Tryz.sizeOf102⟩
instance:ArrT AC 102 5 3 1:=⟨Tryz.underlying102,BZ⟩
instance:BuildT AC 102 (fun i=>some (i*1,1)) [.int .i64 0,.int .i64 0,.int .i64 0,.int .i64 0,.int .i64 0]:=⟨fun parts=>by kernel_rfl⟩
instance:ZeroV AC 102 [.int .i64 0,.int .i64 0,.int .i64 0,.int .i64 0,.int .i64 0]:=⟨_,rfl,Tryz.zeroValue102⟩
instance:FieldOff AC 105 0 0:=FieldOff.of (m:=0) _ _ Tryz.underlying105 rfl rfl Tryz.sizeOf66
instance:FieldOff AC 105 1 1:=FieldOff.of (m:=0) _ _ Tryz.underlying105 rfl rfl Tryz.sizeOf46
instance:FieldOff AC 105 2 2:=FieldOff.of (m:=0) _ _ Tryz.underlying105 rfl rfl Tryz.sizeOf82
instance:BuildT AC 105 (fun i=>([(0,1),(1,1),(2,1)]:List (Nat×Nat))[i]?) [.pointer none,.pointer none,.pointer none]:=BuildT.ofS (fun parts=>by kernel_rfl)
instance:Cell1 AC 106:=⟨Tryz.isAgg106,Tryz.sizeOf106⟩
instance:MapT AC 106 163 3:=⟨Tryz.underlying106⟩
instance:FieldOff AC 108 0 0:=FieldOff.of (m:=0) _ _ Tryz.underlying108 rfl rfl BZ
instance:FieldOff AC 108 1 1:=FieldOff.of (m:=0) _ _ Tryz.underlying108 rfl rfl BZ
instance:FieldOff AC 108 2 2:=FieldOff.of (m:=0) _ _ Tryz.underlying108 rfl rfl BZ
instance:FieldOff AC 108 3 3:=FieldOff.of (m:=0) _ _ Tryz.underlying108 rfl rfl Tryz.sizeOf106
instance:BuildT AC 108 (fun i=>([(0,1),(1,1),(2,1),(3,1)]:List (Nat×Nat))[i]?) [.int .i64 0,.int .i64 0,.int .i64 0,.map none]:=BuildT.ofS (fun parts=>by kernel_rfl)
instance:Cell1 AC 113:=⟨Tryz.isAgg113,Tryz.sizeOf113⟩
instance:MapT AC 113 3 175:=⟨Tryz.underlying113⟩
instance:Cell1 AC 114:=⟨Tryz.isAgg114,Tryz.sizeOf114⟩
instance:SliceT AC 114 231 2:=⟨Tryz.underlying114,Tryz.sizeOf231⟩
instance:FieldOff AC 116 0 0:=FieldOff.of (m:=0) _ _ EB rfl rfl BZ
instance:FieldOff AC 116 1 1:=FieldOff.of (m:=0) _ _ EB rfl rfl BZ
instance:FieldOff AC 116 3 3:=FieldOff.of (m:=0) _ _ EB rfl rfl Tryz.sizeOf113
instance:FieldOff AC 116 4 4:=FieldOff.of (m:=0) _ _ EB rfl rfl Tryz.sizeOf114
instance:FieldOff AC 116 5 5:=FieldOff.of (m:=0) _ _ EB rfl rfl BZ
instance:FieldOff AC 116 6 6:=FieldOff.of (m:=0) _ _ EB rfl rfl BZ
instance:FieldOff AC 116 7 7:=FieldOff.of (m:=0) _ _ EB rfl rfl EI
instance:FieldOff AC 116 8 8:=FieldOff.of (m:=0) _ _ EB rfl rfl BZ
instance:BuildT AC 116 (fun i=>([(0,1),(1,1),(2,1),(3,1),(4,1),(5,1),(6,1),(7,1),(8,1)]:List (Nat×Nat))[i]?) [.int .i64 0,.int .i64 0,.map none,.map none,.slice none 0 0,.int .i64 0,.int .i64 0,.bool false,.int .i64 0]:=BuildT.ofS (fun parts=>by kernel_rfl)
instance:SliceT AC 117 3 1:=⟨Tryz.underlying117,BZ⟩
instance:Cell1 AC 122:=⟨Tryz.isAgg122,Tryz.sizeOf122⟩
instance:PtrT AC 122:=⟨by kernel_rfl⟩
instance:ZeroV AC 122 [.pointer none]:=⟨_,rfl,Tryz.zeroValue122⟩
instance:Cell1 AC 127:=⟨Tryz.isAgg127,Tryz.sizeOf127⟩
instance:PtrT AC 127:=⟨by kernel_rfl⟩
instance:SliceT AC 132 4 1:=⟨Tryz.underlying132,EI⟩
instance:SliceT AC 135 2 1:=⟨Tryz.underlying135,Tryz.sizeOf2⟩
instance:AggN AC 141 2:=⟨Tryz.isAgg141,Tryz.sizeOf141⟩
instance:FieldOff AC 141 0 0:=FieldOff.of (m:=0) _ _ Tryz.underlying141 rfl rfl BZ
instance:FieldOff AC 141 1 1:=FieldOff.of (m:=0) _ _ Tryz.underlying141 rfl rfl BZ
instance:BuildT AC 141 (fun i=>([(0,1),(1,1)]:List (Nat×Nat))[i]?) [.int .i64 0,.int .i64 0]:=BuildT.ofS (fun parts=>by kernel_rfl)
instance:ZeroV AC 141 [.int .i64 0,.int .i64 0]:=⟨_,rfl,Tryz.zeroValue141⟩
instance:ElemT AC 141 2 16 [.int .i64 0,.int .i64 0]:=⟨by kernel_rfl⟩
instance:Cell1 AC 142:=⟨Tryz.isAgg142,Tryz.sizeOf142⟩
instance:SliceT AC 142 141 2:=⟨Tryz.underlying142,Tryz.sizeOf141⟩
instance:FieldOff AC 144 0 0:=FieldOff.of (m:=1) _ _ Tryz.underlying144 rfl rfl Tryz.sizeOf141
instance:FieldOff AC 144 1 2:=FieldOff.of (m:=0) _ _ Tryz.underlying144 rfl rfl Tryz.sizeOf142
instance:BuildT AC 144 (fun i=>([(0,2),(2,1)]:List (Nat×Nat))[i]?) [.int .i64 0,.int .i64 0,.slice none 0 0]:=BuildT.ofS (fun parts=>by kernel_rfl)
instance:Cell1 AC 163:=⟨Tryz.isAgg163,Tryz.sizeOf163⟩
instance:PtrT AC 163:=⟨by kernel_rfl⟩
instance:PtrKey AC 163:=⟨177,1,Tryz.underlying163,by decide,Tryz.sizeOf177⟩
instance:FieldOff AC 168 0 0:=FieldOff.of (m:=0) _ _ Tryz.underlying168 rfl rfl Tryz.sizeOf38
instance:FieldOff AC 168 1 1:=FieldOff.of (m:=3) _ _ Tryz.underlying168 rfl rfl Tryz.sizeOf42
instance:FieldOff AC 168 2 5:=FieldOff.of (m:=0) _ _ Tryz.underlying168 rfl rfl BZ
instance:FieldOff AC 168 3 6:=FieldOff.of (m:=0) _ _ Tryz.underlying168 rfl rfl Tryz.sizeOf163
instance:FieldOff AC 168 4 7:=FieldOff.of (m:=0) _ _ Tryz.underlying168 rfl rfl BZ
instance:FieldOff AC 168 5 8:=FieldOff.of (m:=0) _ _ Tryz.underlying168 rfl rfl BZ
instance:FieldOff AC 168 6 9:=FieldOff.of (m:=0) _ _ Tryz.underlying168 rfl rfl EI
instance:BuildT AC 168 (fun i=>([(0,1),(1,4),(5,1),(6,1),(7,1),(8,1),(9,1)]:List (Nat×Nat))[i]?) [.pointer none,.int .i64 0,.int .i64 0,.int .i64 0,.int .i64 0,.int .i64 0,.pointer none,.int .i64 0,.int .i64 0,.bool false]:=BuildT.ofS (fun parts=>by kernel_rfl)
instance:Cell1 AC 174:=⟨Tryz.isAgg174,Tryz.sizeOf174⟩
instance:IntT AC 174 .u64:=⟨Tryz.underlying174⟩
instance:ElemT AC 174 1 8 [.int .u64 0]:=⟨by kernel_rfl⟩
instance:Cell1 AC 175:=⟨Tryz.isAgg175,Tryz.sizeOf175⟩
instance:SliceT AC 175 174 1:=⟨Tryz.underlying175,Tryz.sizeOf174⟩
instance:FieldOff AC 177 0 0:=FieldOff.of (m:=0) _ _ Tryz.underlying177 rfl rfl Tryz.sizeOf175
instance:BuildT AC 177 (fun i=>([(0,1)]:List (Nat×Nat))[i]?) [.slice none 0 0]:=BuildT.ofS (fun parts=>by kernel_rfl)
instance:FieldOff AC 180 0 0:=FieldOff.of (m:=0) _ _ EC rfl rfl Tryz.sizeOf38
instance:FieldOff AC 180 1 1:=FieldOff.of (m:=3) _ _ EC rfl rfl Tryz.sizeOf42
instance:FieldOff AC 180 2 5:=FieldOff.of (m:=0) _ _ EC rfl rfl Tryz.sizeOf163
instance:FieldOff AC 180 3 6:=FieldOff.of (m:=0) _ _ EC rfl rfl BZ
instance:FieldOff AC 180 4 7:=FieldOff.of (m:=0) _ _ EC rfl rfl BZ
instance:FieldOff AC 180 5 8:=FieldOff.of (m:=0) _ _ EC rfl rfl BZ
instance:FieldOff AC 180 6 9:=FieldOff.of (m:=0) _ _ EC rfl rfl BZ
instance:FieldOff AC 180 7 10:=FieldOff.of (m:=0) _ _ EC rfl rfl EI
instance:BuildT AC 180 (fun i=>([(0,1),(1,4),(5,1),(6,1),(7,1),(8,1),(9,1),(10,1)]:List (Nat×Nat))[i]?) [.pointer none,.int .i64 0,.int .i64 0,.int .i64 0,.int .i64 0,.pointer none,.int .i64 0,.int .i64 0,.int .i64 0,.int .i64 0,.bool false]:=BuildT.ofS (fun parts=>by kernel_rfl)
instance:Cell1 AC 185:=⟨Tryz.isAgg185,Tryz.sizeOf185⟩
instance:FieldOff AC 187 0 0:=FieldOff.of (m:=0) _ _ DR rfl rfl Tryz.sizeOf185
instance:FieldOff AC 187 1 1:=FieldOff.of (m:=4) _ _ DR rfl rfl Tryz.sizeOf33
instance:FieldOff AC 187 2 6:=FieldOff.of (m:=0) _ _ DR rfl rfl EI
instance:FieldOff AC 187 3 7:=FieldOff.of (m:=0) _ _ DR rfl rfl EI
instance:FieldOff AC 187 4 8:=FieldOff.of (m:=0) _ _ DR rfl rfl BZ
instance:FieldOff AC 187 5 9:=FieldOff.of (m:=0) _ _ DR rfl rfl BZ
instance:FieldOff AC 187 6 10:=FieldOff.of (m:=0) _ _ DR rfl rfl BZ
instance:FieldOff AC 187 7 11:=FieldOff.of (m:=0) _ _ DR rfl rfl Tryz.sizeOf2
instance:FieldOff AC 187 8 12:=FieldOff.of (m:=0) _ _ DR rfl rfl EI
instance:BuildT AC 187 (fun i=>([(0,1),(1,5),(6,1),(7,1),(8,1),(9,1),(10,1),(11,1),(12,1)]:List (Nat×Nat))[i]?) [.nilFunc,.int .i64 0,.int .i64 0,.int .i64 0,.int .i64 0,.int .i64 0,.bool false,.bool false,.int .i64 0,.int .i64 0,.int .i64 0,.int .i64 0,.bool false]:=BuildT.ofS (fun parts=>by kernel_rfl)
instance:Cell1 AC 191:=⟨Tryz.isAgg191,Tryz.sizeOf191⟩
instance:Cell1 AC 192:=⟨Tryz.isAgg192,Tryz.sizeOf192⟩
instance:FieldOff AC 194 0 0:=FieldOff.of (m:=0) _ _ Tryz.underlying194 rfl rfl Tryz.sizeOf192
instance:FieldOff AC 194 1 1:=FieldOff.of (m:=4) _ _ Tryz.underlying194 rfl rfl Tryz.sizeOf33
instance:FieldOff AC 194 2 6:=FieldOff.of (m:=0) _ _ Tryz.underlying194 rfl rfl EI
instance:BuildT AC 194 (fun i=>([(0,1),(1,5),(6,1)]:List (Nat×Nat))[i]?) [.nilFunc,.int .i64 0,.int .i64 0,.int .i64 0,.int .i64 0,.int .i64 0,.bool false]:=BuildT.ofS (fun parts=>by kernel_rfl)
instance:FieldOff AC 200 0 0:=FieldOff.of (m:=0) _ _ Tryz.underlying200 rfl rfl Tryz.sizeOf38
instance:FieldOff AC 200 1 1:=FieldOff.of (m:=4) _ _ Tryz.underlying200 rfl rfl Tryz.sizeOf102
instance:FieldOff AC 200 2 6:=FieldOff.of (m:=0) _ _ Tryz.underlying200 rfl rfl EI
instance:FieldOff AC 200 3 7:=FieldOff.of (m:=0) _ _ Tryz.underlying200 rfl rfl Tryz.sizeOf34
instance:FieldOff AC 200 4 8:=FieldOff.of (m:=4) _ _ Tryz.underlying200 rfl rfl Tryz.sizeOf33
instance:FieldOff AC 200 5 13:=FieldOff.of (m:=0) _ _ Tryz.underlying200 rfl rfl EI
instance:BuildT AC 200 (fun i=>([(0,1),(1,5),(6,1),(7,1),(8,5),(13,1)]:List (Nat×Nat))[i]?) [.pointer none,.int .i64 0,.int .i64 0,.int .i64 0,.int .i64 0,.int .i64 0,.bool false,.slice none 0 0,.int .i64 0,.int .i64 0,.int .i64 0,.int .i64 0,.int .i64 0,.bool false]:=BuildT.ofS (fun parts=>by kernel_rfl)
instance:IntT AC 214 .u64:=⟨Tryz.underlying214⟩
instance:ArrT AC 215 6 4 1:=⟨Tryz.underlying215,EI⟩
instance:ZeroV AC 215 [.bool false,.bool false,.bool false,.bool false,.bool false,.bool false]:=⟨_,rfl,Tryz.zeroValue215⟩
instance:PtrT AC 216:=⟨by kernel_rfl⟩
instance:FieldOff AC 218 0 0:=FieldOff.of (m:=0) _ _ Tryz.underlying218 rfl rfl Tryz.sizeOf163
instance:FieldOff AC 218 1 1:=FieldOff.of (m:=0) _ _ Tryz.underlying218 rfl rfl BZ
instance:FieldOff AC 218 2 2:=FieldOff.of (m:=0) _ _ Tryz.underlying218 rfl rfl BZ
instance:FieldOff AC 218 3 3:=FieldOff.of (m:=4) _ _ Tryz.underlying218 rfl rfl Tryz.sizeOf102
instance:BuildT AC 218 (fun i=>([(0,1),(1,1),(2,1),(3,5)]:List (Nat×Nat))[i]?) [.pointer none,.int .i64 0,.int .i64 0,.int .i64 0,.int .i64 0,.int .i64 0,.int .i64 0,.int .i64 0]:=BuildT.ofS (fun parts=>by kernel_rfl)
instance:BuildT AC 231 (fun i=>([(0,1),(1,1)]:List (Nat×Nat))[i]?) [.int .i64 0,.slice none 0 0]:=BuildT.ofS (fun parts=>by kernel_rfl)
instance:ElemT AC 231 2 32 [.int .i64 0,.slice none 0 0]:=⟨by kernel_rfl⟩
instance:Cell1 AC 238:=⟨Tryz.isAgg238,Tryz.sizeOf238⟩
instance:PtrT AC 238:=⟨by kernel_rfl⟩
instance:ZeroV AC 238 [.pointer none]:=⟨_,rfl,Tryz.zeroValue238⟩
instance:Cell1 AC 239:=⟨Tryz.isAgg239,Tryz.sizeOf239⟩
instance:SliceT AC 239 243 7:=⟨Tryz.underlying239,Tryz.sizeOf243⟩
instance:FieldOff AC 241 0 0:=FieldOff.of (m:=0) _ _ Tryz.underlying241 rfl rfl Tryz.sizeOf239
instance:FieldOff AC 241 1 1:=FieldOff.of (m:=4) _ _ Tryz.underlying241 rfl rfl Tryz.sizeOf102
instance:BuildT AC 241 (fun i=>([(0,1),(1,5)]:List (Nat×Nat))[i]?) [.slice none 0 0,.int .i64 0,.int .i64 0,.int .i64 0,.int .i64 0,.int .i64 0]:=BuildT.ofS (fun parts=>by kernel_rfl)
instance:AggN AC 243 7:=⟨Tryz.isAgg243,Tryz.sizeOf243⟩
instance:FieldOff AC 243 0 0:=FieldOff.of (m:=4) _ _ Tryz.underlying243 rfl rfl Tryz.sizeOf33
instance:FieldOff AC 243 1 5:=FieldOff.of (m:=0) _ _ Tryz.underlying243 rfl rfl BZ
instance:FieldOff AC 243 2 6:=FieldOff.of (m:=0) _ _ Tryz.underlying243 rfl rfl Tryz.sizeOf127
instance:BuildT AC 243 (fun i=>([(0,5),(5,1),(6,1)]:List (Nat×Nat))[i]?) [.int .i64 0,.int .i64 0,.int .i64 0,.int .i64 0,.int .i64 0,.int .i64 0,.pointer none]:=BuildT.ofS (fun parts=>by kernel_rfl)
instance:ZeroV AC 243 [.int .i64 0,.int .i64 0,.int .i64 0,.int .i64 0,.int .i64 0,.int .i64 0,.pointer none]:=⟨_,rfl,Tryz.zeroValue243⟩
instance:ElemT AC 243 7 56 [.int .i64 0,.int .i64 0,.int .i64 0,.int .i64 0,.int .i64 0,.int .i64 0,.pointer none]:=⟨by kernel_rfl⟩
instance:IntT AC 248 .u32:=⟨Tryz.underlying248⟩
instance:Callable AC 15:=⟨Tryz.call15⟩
instance:Callable AC 16:=⟨Tryz.call16⟩
instance:Callable AC 17:=⟨Tryz.call17⟩
instance:Callable AC 18:=⟨Tryz.call18⟩
instance:Callable AC 19:=⟨Tryz.call19⟩
instance:Callable AC 20:=⟨Tryz.call20⟩
instance:Callable AC 21:=⟨Tryz.call21⟩
instance:Callable AC 22:=⟨Tryz.call22⟩
instance:Callable AC 23:=⟨Tryz.call23⟩
instance:Callable AC 24:=⟨Tryz.call24⟩
instance:Callable AC 29:=⟨Tryz.call29⟩
instance:Callable AC 30:=⟨Tryz.call30⟩
instance:Callable AC 31:=⟨Tryz.call31⟩
instance:Callable AC 32:=⟨Tryz.call32⟩
instance:Callable AC 33:=⟨Tryz.call33⟩
instance:Callable AC 34:=⟨Tryz.call34⟩
instance:Callable AC 35:=⟨Tryz.call35⟩
instance:Callable AC 41:=⟨Tryz.call41⟩
instance:Callable AC 43:=⟨Tryz.call43⟩
instance:Callable AC 44:=⟨Tryz.call44⟩
instance:Callable AC 45:=⟨Tryz.call45⟩
instance:Callable AC 46:=⟨Tryz.call46⟩
instance:Callable AC 47:=⟨Tryz.call47⟩
instance:Callable AC 48:=⟨Tryz.call48⟩
instance:Callable AC 49:=⟨Tryz.call49⟩
instance:Callable AC 50:=⟨Tryz.call50⟩
instance:Callable AC 51:=⟨Tryz.call51⟩
instance:Callable AC 52:=⟨Tryz.call52⟩
instance:Callable AC 53:=⟨Tryz.call53⟩
instance:Callable AC 54:=⟨Tryz.call54⟩
instance:Callable AC 55:=⟨Tryz.call55⟩
instance:Callable AC 56:=⟨Tryz.call56⟩
instance:Callable AC 57:=⟨Tryz.call57⟩
instance:Callable AC 58:=⟨Tryz.call58⟩
instance:Callable AC 59:=⟨Tryz.call59⟩
instance:Callable AC 60:=⟨Tryz.call60⟩
instance:Callable AC 61:=⟨Tryz.call61⟩
instance:Callable AC 62:=⟨Tryz.call62⟩
instance:Callable AC 63:=⟨Tryz.call63⟩
instance:Callable AC 64:=⟨Tryz.call64⟩
instance:Callable AC 65:=⟨Tryz.call65⟩
instance:Callable AC 66:=⟨Tryz.call66⟩
instance:Callable AC 67:=⟨Tryz.call67⟩
instance:Callable AC 68:=⟨Tryz.call68⟩
instance:Callable AC 69:=⟨Tryz.call69⟩
instance:Callable AC 70:=⟨Tryz.call70⟩
instance:Callable AC 71:=⟨Tryz.call71⟩
instance:Callable AC 72:=⟨Tryz.call72⟩
instance:Callable AC 73:=⟨Tryz.call73⟩
instance:Callable AC 82:=⟨Tryz.call82⟩
instance:Callable AC 89:=⟨Tryz.call89⟩
instance:Callable AC 90:=⟨Tryz.call90⟩
instance:Callable AC 91:=⟨Tryz.call91⟩
instance:Callable AC 92:=⟨Tryz.call92⟩
instance:Callable AC 93:=⟨Tryz.call93⟩
instance:Callable AC 95:=⟨Tryz.call95⟩
instance:Callable AC 96:=⟨Tryz.call96⟩
instance:Callable AC 97:=⟨Tryz.call97⟩
instance:Callable AC 98:=⟨Tryz.call98⟩
instance:Callable AC 99:=⟨Tryz.call99⟩
instance:Callable AC 100:=⟨Tryz.call100⟩
instance:Callable AC 101:=⟨Tryz.call101⟩
instance:Callable AC 102:=⟨Tryz.call102⟩
instance:Callable AC 103:=⟨Tryz.call103⟩
instance:Callable AC 104:=⟨Tryz.call104⟩
instance:Callable AC 105:=⟨Tryz.call105⟩
instance:Callable AC 106:=⟨Tryz.call106⟩
instance:Callable AC 107:=⟨Tryz.call107⟩
instance:Callable AC 108:=⟨Tryz.call108⟩
instance:Callable AC 109:=⟨Tryz.call109⟩
instance:Callable AC 110:=⟨Tryz.call110⟩
instance:Callable AC 111:=⟨Tryz.call111⟩
instance:Callable AC 112:=⟨Tryz.call112⟩
instance:Callable AC 113:=⟨Tryz.call113⟩
instance:Callable AC 114:=⟨Tryz.call114⟩
instance:Callable AC 115:=⟨Tryz.call115⟩
instance:Callable AC 116:=⟨Tryz.call116⟩
instance:Callable AC 117:=⟨Tryz.call117⟩
instance:Callable AC 118:=⟨Tryz.call118⟩
instance:Callable AC 119:=⟨Tryz.call119⟩
instance:Callable AC 120:=⟨Tryz.call120⟩
instance:Callable AC 121:=⟨Tryz.call121⟩
instance:Callable AC 122:=⟨Tryz.call122⟩
instance:Callable AC 123:=⟨Tryz.call123⟩
instance:Callable AC 124:=⟨Tryz.call124⟩
instance:Callable AC 125:=⟨Tryz.call125⟩
instance:Callable AC 126:=⟨Tryz.call126⟩
instance:Callable AC 127:=⟨Tryz.call127⟩
instance:Callable AC 128:=⟨Tryz.call128⟩
instance:Callable AC 154:=⟨Tryz.call154⟩
instance:Callable AC 156:=⟨Tryz.call156⟩
instance:Callable AC 157:=⟨Tryz.call157⟩
instance:Callable AC 158:=⟨Tryz.call158⟩
instance:Callable AC 159:=⟨Tryz.call159⟩
instance:Callable AC 160:=⟨Tryz.call160⟩
instance:Callable AC 161:=⟨Tryz.call161⟩
instance:Callable AC 162:=⟨Tryz.call162⟩
instance:Callable AC 163:=⟨Tryz.call163⟩
instance:Callable AC 165:=⟨Tryz.call165⟩
instance:Callable AC 166:=⟨Tryz.call166⟩
instance:Callable AC 167:=⟨Tryz.call167⟩
instance:Callable AC 168:=⟨Tryz.call168⟩
instance:Callable AC 169:=⟨Tryz.call169⟩
instance:Callable AC 170:=⟨Tryz.call170⟩
instance:Callable AC 171:=⟨Tryz.call171⟩
instance:Callable AC 172:=⟨Tryz.call172⟩
instance:Callable AC 173:=⟨Tryz.call173⟩
instance:Callable AC 174:=⟨Tryz.call174⟩
instance:Callable AC 175:=⟨Tryz.call175⟩
instance:Callable AC 176:=⟨Tryz.call176⟩
instance:Callable AC 177:=⟨Tryz.call177⟩
instance:Callable AC 178:=⟨Tryz.call178⟩
instance:Callable AC 179:=⟨Tryz.call179⟩
instance:Callable AC 180:=⟨Tryz.call180⟩
instance:Callable AC 181:=⟨Tryz.call181⟩
instance:Callable AC 202:=⟨Tryz.call202⟩
instance:Callable AC 203:=⟨Tryz.call203⟩
instance:Callable AC 204:=⟨Tryz.call204⟩
instance:Callable AC 205:=⟨Tryz.call205⟩
instance:Callable AC 206:=⟨Tryz.call206⟩
instance:Callable AC 207:=⟨Tryz.call207⟩
instance:Callable AC 208:=⟨Tryz.call208⟩
instance:Callable AC 209:=⟨Tryz.call209⟩
instance:Callable AC 210:=⟨Tryz.call210⟩
instance:Callable AC 211:=⟨Tryz.call211⟩
instance:Callable AC 212:=⟨Tryz.call212⟩
instance:Callable AC 213:=⟨Tryz.call213⟩
instance:Callable AC 214:=⟨Tryz.call214⟩
instance:Callable AC 215:=⟨Tryz.call215⟩
instance:Callable AC 216:=⟨Tryz.call216⟩
instance:Callable AC 217:=⟨Tryz.call217⟩
instance:Callable AC 218:=⟨Tryz.call218⟩
instance:Callable AC 219:=⟨Tryz.call219⟩
instance:Callable AC 220:=⟨Tryz.call220⟩
instance:Callable AC 224:=⟨Tryz.call224⟩
instance:Callable AC 225:=⟨Tryz.call225⟩
instance:Callable AC 226:=⟨Tryz.call226⟩
instance:Callable AC 227:=⟨Tryz.call227⟩
instance:Callable AC 228:=⟨Tryz.call228⟩
instance:Callable AC 229:=⟨Tryz.call229⟩
instance:Callable AC 230:=⟨Tryz.call230⟩
instance:Callable AC 231:=⟨Tryz.call231⟩
instance:Callable AC 232:=⟨Tryz.call232⟩
instance:Callable AC 233:=⟨Tryz.call233⟩
instance:Callable AC 234:=⟨Tryz.call234⟩
instance:Callable AC 235:=⟨Tryz.call235⟩
instance:Callable AC 236:=⟨Tryz.call236⟩
instance:Callable AC 237:=⟨Tryz.call237⟩
instance:Callable AC 238:=⟨Tryz.call238⟩
instance:Callable AC 240:=⟨Tryz.call240⟩
instance:Callable AC 241:=⟨Tryz.call241⟩
instance:Callable AC 242:=⟨Tryz.call242⟩
instance:Callable AC 243:=⟨Tryz.call243⟩
instance:Callable AC 244:=⟨Tryz.call244⟩
instance:Callable AC 245:=⟨Tryz.call245⟩
instance:Callable AC 246:=⟨Tryz.call246⟩
instance:Callable AC 248:=⟨Tryz.call248⟩
instance:Callable AC 249:=⟨Tryz.call249⟩
instance:Callable AC 250:=⟨Tryz.call250⟩
instance:Callable AC 251:=⟨Tryz.call251⟩
instance:Callable AC 252:=⟨Tryz.call252⟩
instance:Callable AC 253:=⟨Tryz.call253⟩
instance:Callable AC 271:=⟨Tryz.call271⟩
instance:Callable AC 272:=⟨Tryz.call272⟩
instance:Callable AC 273:=⟨Tryz.call273⟩
instance:Callable AC 274:=⟨Tryz.call274⟩
instance:Callable AC 275:=⟨Tryz.call275⟩
instance:Callable AC 276:=⟨Tryz.call276⟩
instance:Mixed AC:=⟨by kernel_rfl⟩
end Go.Proofs.YtaofijjjheiknaaGreat
namespace Go.Spc
abbrev Ext:=Nat×Nat
def fok (n:Nat) (l:List Ext):Prop:=(∀e∈l,1≤e.2∧e.1+e.2≤n)∧l.Pairwise fun a b=>a.1+a.2<b.1
def inF (l:List Ext) (x:Nat):Prop:=∃e∈l,e.1≤x∧x<e.1+e.2
@[simp] theorem aYg (x:Nat):inF [] x↔False:=by simp[inF]
@[simp] theorem aDs (e:Ext) (l:List Ext) (x:Nat):inF (e::l) x↔(e.1≤x∧x<e.1+e.2)∨inF l x:=by simp[inF]
@[simp] theorem aOr (a b:List Ext) (x:Nat):inF (a++b) x↔inF a x∨inF b x:=by
 simp only[inF,List.mem_append]
 constructor
 ·rintro⟨e,h|h,h2⟩
  ·exact .inl ⟨e,h,h2⟩
  ·exact .inr ⟨e,h,h2⟩
 ·rintro(⟨e,h,h2⟩|⟨e,h,h2⟩)
  ·exact⟨e,.inl h,h2⟩
  ·exact⟨e,.inr h,h2⟩
theorem aCu {n:Nat} {a b:List Ext}:fok n (a++b)↔fok n a∧fok n b∧∀x∈a,∀y∈b,x.1+x.2<y.1:=by
 unfold fok
 rw[List.pairwise_append]
 constructor
 ·rintro⟨h1,h2,h3,h4⟩
  exact⟨⟨fun e he=>h1 e (List.mem_append_left _ he),h2⟩,⟨fun e he=>h1 e (List.mem_append_right _ he),h3⟩,h4⟩
 ·rintro⟨⟨h1,h2⟩,⟨h3,h4⟩,h5⟩
  refine⟨fun e he=> ?_,h2,h4,h5⟩
  rcases List.mem_append.1 he with h|h
  ·exact h1 e h
  ·exact h3 e h
theorem aCo {n:Nat} {e:Ext} {b:List Ext}:fok n (e::b)↔(1≤e.2∧e.1+e.2≤n)∧fok n b∧∀y∈b,e.1+e.2<y.1:=by
 unfold fok
 rw[List.pairwise_cons]
 simp only[List.mem_cons,forall_eq_or_imp]
 constructor
 ·rintro⟨⟨h1,h2⟩,h3,h4⟩
  exact⟨h1,⟨h2,h4⟩,h3⟩
 ·rintro⟨h1,⟨h2,h4⟩,h3⟩
  exact⟨⟨h1,h2⟩,h3,h4⟩
theorem bFv (n:Nat):fok n []:=⟨oA15,List.Pairwise.nil⟩
theorem bOd {n:Nat} (first:Nat):∀(l:List Ext),fok n l→∃A B,l=A++B∧(∀e∈A,e.1+e.2≤first)∧∀e∈B,first<e.1+e.2
 |[],_=>⟨[],[],rfl,by simp,by simp⟩
 |e::l,h=>by
  obtain⟨h1,h2,h3⟩:=aCo.1 h
  by_cases he:first<e.1+e.2
  ·refine⟨[],e::l,rfl,by simp,?_⟩
   intro y hy
   rcases List.mem_cons.1 hy with rfl|hy
   ·exact he
   ·have:=h3 y hy
    have:=h2.1 y hy
    omega
  ·obtain⟨A,B,rfl,hA,hB⟩:=bOd first l h2
   refine⟨e::A,B,rfl,?_,hB⟩
   intro y hy
   rcases List.mem_cons.1 hy with rfl|hy
   ·omega
   ·exact hA y hy
theorem aYh {first m:Nat} {e:Ext} {B:List Ext} (h1:first<e.1+e.2) (he:1≤e.2) (hd:∀x,first≤x→x<first+m→¬inF (e::B) x) (hm:1≤m):first+m≤e.1:=by
 by_cases hh:first+m≤e.1
 ·exact hh
 ·exfalso
  by_cases h2:e.1≤first
  ·exact hd first (Nat.le_refl _) oM ((aDs ..).2 (.inl ⟨h2,h1⟩))
  ·exact hd e.1 oM oM ((aDs ..).2 (.inl ⟨Nat.le_refl _,oM⟩))
def aBg (l:List Ext):Nat:=(l.map (·.2)).sum
@[simp] theorem bFw (a b:List Ext):aBg (a++b)=aBg a+aBg b:=by simp[aBg]
@[simp] theorem aJb (e:Ext) (b:List Ext):aBg (e::b)=e.2+aBg b:=by simp[aBg]
@[simp] theorem total_nil:aBg []=0:=rfl
theorem aVc (m:Nat):∀(l:List Ext),(∀e∈l,e.2<m)∨∃A e B,l=A++e::B∧m≤e.2∧∀x∈A,x.2<m
 |[]=> .inl oA15
 |e::l=>by
  by_cases he:m≤e.2
  ·exact .inr ⟨[],e,l,rfl,he,by simp⟩
  ·rcases aVc m l with h|⟨A,x,B,rfl,h1,h2⟩
   ·left
    intro y hy
    rcases List.mem_cons.1 hy with rfl|hy
    ·omega
    ·exact h y hy
   ·right
    refine⟨e::A,x,B,rfl,h1,fun y hy=> ?_⟩
    rcases List.mem_cons.1 hy with rfl|hy
    ·omega
    ·exact h2 y hy
def big:List Ext→Nat
 |[]=>0
 |e::l=>max e.2 (big l)
theorem aYi (a b:List Ext):big (a++b)=max (big a) (big b):=by
 induction a with
 |nil=>simp[big]
 |cons e a ih=>simp only[List.cons_append,big,ih];omega
theorem bFx:∀{l:List Ext} {e:Ext},e∈l→e.2≤big l
 |x::l,e,h=>by
  rcases List.mem_cons.1 h with rfl|h
  ·simp only[big];omega
  ·have:=bFx h;simp only[big];omega
theorem bFy:∀{l:List Ext},0<big l→∃e∈l,e.2=big l
 |x::l,h=>by
  simp only[big] at h⊢
  by_cases hh:big l≤x.2
  ·exact⟨x,List.mem_cons_self,oM⟩
  ·obtain⟨e,he,h2⟩:=bFy (l:=l) oM
   exact⟨e,List.mem_cons_of_mem _ he,oM⟩
end Go.Spc
namespace Go.Proofs.YtaofijjjheiknaaGreat
open Go.SL Go.Spc
def aAe:List Ext→List Value
 |[]=>[]
 |e::l=> .int .i64 (e.1:Int):: .int .i64 (e.2:Int)::aAe l
@[simp] theorem aCg (l:List Ext):(aAe l).length=l.length*2:=by
 induction l with
 |nil=>rfl
 |cons e l ih=>simp only[aAe,AL,ih];omega
@[simp] theorem aGv (a b:List Ext):aAe (a++b)=aAe a++aAe b:=by
 induction a with
 |nil=>rfl
 |cons e a ih=>simp[aAe,ih]
theorem aFx (l:List Ext):(aAe l).all Value.oneCell'=true:=by
 induction l with
 |nil=>rfl
 |cons e l ih=>simpa[aAe,Value.oneCell'] using ih
theorem aGc {a c vs:List Value} {o:Nat} (ho:a.length=o) (h:vs.length≤c.length):∃y,aFm (a++c) o vs=a++(vs++y)∧vs.length+y.length=c.length∧y=c.drop vs.length:=by
 subst ho
 refine⟨c.drop vs.length,?_,by simp;omega,rfl⟩
 rw[aGb _ _ _ oA12]
 simp
theorem Vec.mk' {E sz b cap m:Nat} {cs xs rest:List Value} (aa:cs=xs++rest) (h1:xs.length=m*sz) (h2:cap*sz≤cs.length) (h3:m≤cap) (h4:cap≤maxLen):Vec E sz (some ⟨b,0,none⟩) m cap xs [(b,row cs E)]:=by
 subst aa
 exact⟨h1,.inr ⟨b,rest,rfl,rfl,by simpa using h2,h3,h4⟩⟩
theorem aYj {a c r:List Value} {o m:Nat} (ho:a.length=o) (h:c.length=m):((a++(c++r)).drop o).take m=c:=by
 subst ho h
 simp
theorem aNo {a r:List Value} {m:Nat} (h:a.length=m):((a++r).drop 0).take m=a:=by
 subst h
 simp
theorem bPm (p:Option Addr) (cap:Nat) (A B:List Ext) (x:Ext) (c:aAc) (i n:Nat) (hi:A.length=i) (hn:n=i+1+B.length) (hm:n≤1000000) (hV:Vec 141 2 p n cap (aAe (A++[x]++B)) c):
  Ct AC 205 [.slice p n cap,.int .i64 (i:Int),.int .i64 ((i:Int)+1),.slice none 0 0] [c] fun v H'=>
   ∃p' cap' c',v= .slice p' (i+B.length) cap'∧Vec 141 2 p' (i+B.length) cap' (aAe (A++B)) c'∧H'=[c']:=by
 obtain⟨ah,hV⟩:=hV
 rcases hV with⟨_,h0,_⟩|⟨b,rest,rfl,rfl,ad,ap,ab⟩
 ·omega
 simp only[aGv,AP] at ah ad⊢
 have aq:(aAe [x]).length=2:=rfl
 have ac:(aAe A).length=i*2:=by rw[aCg,hi]
 have ai:(aAe B).length=B.length*2:=aCg B
 have aa:cap*2≤(aAe A++(aAe [x]++(aAe B++rest))).length:=by
  simp only[AF] at ad⊢;omega
 have e1:((i:Int)+1).toNat=i+1:=oM
 have ae:=ab
 simp only[maxLen] at ae
 generalize aAe [x]=X at*
 have ao:=aFx B
 by_cases hB:B=[]
 ·subst hB
  simp only[AV,CD,aAe,AB] at hn aa ai⊢
  subst hn
  obtain⟨y,aj,hy,_⟩:=aGc (vs:=aEu (i+1-i) [.int .i64 0,.int .i64 0]) (c:=X++rest) ac (by rw[aCk];simp only[AF,AL,AV];omega)
  have ak:i*2+(i+1-i)*2≤(aAe A++(X++rest)).length:=by simp only[AF];omega
  refine Ct.go Tryz.func205 Tryz.ntmps205 fun w0=> ?_
  repeat(refine sv ?_;intros)
  (refine Dn.post (Hr:=[[(b,row (aAe A++(aEu (i+1-i) [.int .i64 0,.int .i64 0]++y)) 141)]]) Tryz.results205 (hR:= ?_);refine⟨some ⟨b,0,none⟩,cap,_,rfl,?_,rfl⟩)
  refine Vec.mk' (rest:=aEu (i+1-i) [.int .i64 0,.int .i64 0]++y) oA15 (by simpa using ac) ?_ oM ab
  simp only[AF] at aa hy⊢
  omega
 ·have au:0<B.length:=List.length_pos_iff.2 hB
  have av:B.length=n-(i+1):=oM
  have e2:((i:Int)+((0:Nat):Int)+((n-(i+1):Nat):Int)).toNat=n-1:=oM
  have e3:((i:Int)+((0:Nat):Int)).toNat=i:=oM
  have e4:Nat.min (n-(i+1)) (n-1-i)=n-(i+1):=C0 oM
  have e5:(aAe B).length=(n-(i+1))*2:=oM
  have al:(aAe A++X).length=(i+1)*2:=by simp only[AF];omega
  have hd:((aAe A++(X++(aAe B++rest))).drop ((i+1)*2)).take ((n-(i+1))*2)=aAe B:=by
   have:=aYj (a:=aAe A++X) (c:=aAe B) (r:=rest) al e5
   rwa[AP] at this
  obtain⟨y,aj,hy,_⟩:=aGc (vs:=aAe B) (c:=X++(aAe B++rest)) ac oA9
  have ag:(aAe A++aAe B).length=(n-1)*2:=by simp only[AF];omega
  obtain⟨z,am,hz,_⟩:=aGc (vs:=aEu (n-(n-1)) [.int .i64 0,.int .i64 0]) (c:=y) ag (by rw[aCk];simp only[AF,AL,AV] at hy⊢;omega)
  rw[AP,AP] at am
  have aw:i*2+(n-(i+1))*2≤(aAe A++(X++(aAe B++rest))).length:=by simp only[AF] at hy⊢;omega
  have ak:(n-1)*2+(n-(n-1))*2≤(aAe A++(aAe B++y)).length:=by simp only[AF] at hy aa⊢;omega
  have an:i+B.length=n-1:=oM
  rw[an]
  refine Ct.go Tryz.func205 Tryz.ntmps205 fun w0=> ?_
  repeat(refine sv ?_;intros)
  (refine Dn.post (Hr:=[[(b,row (aAe A++(aAe B++(aEu (n-(n-1)) [.int .i64 0,.int .i64 0]++z))) 141)]]) Tryz.results205 (hR:= ?_);refine⟨some ⟨b,0,none⟩,cap,_,rfl,?_,rfl⟩)
  refine Vec.mk' (rest:=aEu (n-(n-1)) [.int .i64 0,.int .i64 0]++z) oA15 ag ?_ oM ab
  simp only[AF] at aa hy hz⊢
  omega
theorem bPn (p:Option Addr) (cap:Nat) (A B Xs:List Ext) (e:Ext) (c:aAc) (i j n:Nat) (hi:A.length=i) (hj:j=i+Xs.length) (ao:1≤Xs.length) (am:Xs.length≤2) (hn:n=j+B.length) (hm:n≤1000000) (bv cv:Nat) (ab:List Value) (jj:Int) (an:jj=(j:Int))
  (hV:Vec 141 2 p n cap (aAe (A++Xs++B)) c):
  Ct AC 205 [.slice p n cap,.int .i64 (i:Int),.int .i64 jj,.slice (some ⟨bv,0,none⟩) 1 cv] [c,[(bv,row (aAe [e]++ab) 141)]] fun v H'=>
   ∃p' cap' c',v= .slice p' (i+1+B.length) cap'∧Vec 141 2 p' (i+1+B.length) cap' (aAe (A++[e]++B)) c'∧H'=[c']:=by
 subst an
 obtain⟨ap,hV⟩:=hV
 rcases hV with⟨_,h0,_⟩|⟨b,rest,rfl,rfl,ah,a4,ac⟩
 ·omega
 simp only[aGv,AP] at ap ah⊢
 have a5:(aAe Xs).length=(j-i)*2:=by rw[aCg];omega
 have aq:(aAe [e]).length=2:=rfl
 have au:(aAe A).length=i*2:=by rw[aCg,hi]
 have av:(aAe B).length=B.length*2:=aCg B
 have aa:cap*2≤(aAe A++(aAe Xs++(aAe B++rest))).length:=by
  simp only[AF] at ah⊢;omega
 have a6:i+1≤j∧j≤i+2:=oM
 clear ao am hj hi
 have ai:=ac
 simp only[maxLen] at ai
 have a7:=aFx [e]
 have a3:=aFx B
 generalize aAe Xs=X at*
 generalize aAe [e]=V at*
 have a8:((V++ab).drop 0).take (1*2)=V:=aNo oM
 have a9:V.length=1*2:=oM
 obtain⟨y,aw,hy,ax⟩:=aGc (vs:=V) (c:=X++(aAe B++rest)) au oA9
 have ay:i*2+1*2≤(aAe A++(X++(aAe B++rest))).length:=by simp only[AF] at hy⊢;omega
 by_cases hB:B=[]
 ·subst hB
  simp only[AV,CD,aAe,AB] at hn aa av aw ay hy⊢
  obtain rfl:=hn.symm
  by_cases aj:j=i+1
  ·subst aj
   refine Ct.go Tryz.func205 Tryz.ntmps205 fun w0=> ?_
   repeat(refine sv ?_;intros)
   (refine Dn.post (Hr:=[[(b,row (aAe A++(V++y)) 141)]]) Tryz.results205 (hR:= ?_);refine⟨some ⟨b,0,none⟩,cap,_,rfl,?_,rfl⟩)
   refine Vec.mk' (rest:=y) oA15 (by simp only[AQ,AF];omega) ?_ oM ac
   simp only[AF] at aa hy⊢
   omega
  ·have ad:(aAe A++V).length=(i+1)*2:=by simp only[AF];omega
   obtain⟨z,ae,hz,_⟩:=aGc (vs:=aEu (j-(i+1)) [.int .i64 0,.int .i64 0]) (c:=y) ad (by rw[aCk];simp only[AF,AL,AV] at hy⊢;omega)
   rw[AP,AP] at ae
   have az:(i+1)*2+(j-(i+1))*2≤(aAe A++(V++y)).length:=by simp only[AF] at hy aa⊢;omega
   refine Ct.go Tryz.func205 Tryz.ntmps205 fun w0=> ?_
   repeat(refine sv ?_;intros)
   (refine Dn.post (Hr:=[[(b,row (aAe A++(V++(aEu (j-(i+1)) [.int .i64 0,.int .i64 0]++z))) 141)]]) Tryz.results205 (hR:= ?_);refine⟨some ⟨b,0,none⟩,cap,_,rfl,?_,rfl⟩)
   refine Vec.mk' (rest:=aEu (j-(i+1)) [.int .i64 0,.int .i64 0]++z) oA15 (by simp only[AQ,AF];omega) ?_ oM ac
   simp only[AF] at aa hy hz⊢
   omega
 ·have bc:0<B.length:=List.length_pos_iff.2 hB
  have be:B.length=n-j:=oM
  have e2:((i:Int)+((1:Nat):Int)+((n-j:Nat):Int)).toNat=i+1+(n-j):=oM
  have e3:((i:Int)+((1:Nat):Int)).toNat=i+1:=oM
  have e4:Nat.min 1 (i+1+(n-j)-i)=1:=C0 oM
  have e5:Nat.min (n-j) (i+1+(n-j)-(i+1))=n-j:=C0 oM
  have e6:(aAe B).length=(n-j)*2:=oM
  have ad:(aAe A++V).length=(i+1)*2:=by simp only[AF];omega
  have ag:y=X.drop 2++(aAe B++rest):=by
   rw[ax,aq,CY oM]
  have a0:(aAe A++(V++X.drop 2)).length=j*2:=by simp only[AF,CK];omega
  have hd:((aAe A++(V++y)).drop (j*2)).take ((n-j)*2)=aAe B:=by
   have:=aYj (a:=aAe A++(V++X.drop 2)) (c:=aAe B) (r:=rest) a0 e6
   rw[ag]
   simpa only[AP] using this
  obtain⟨z,ae,hz,_⟩:=aGc (vs:=aAe B) (c:=y) ad (by rw[ag];simp only[AF];omega)
  rw[AP,AP] at ae
  have az:(i+1)*2+(n-j)*2≤(aAe A++(V++y)).length:=by rw[ag];simp only[AF,CK] at aa⊢;omega
  have a1:i+1+B.length=i+1+(n-j):=oM
  have ak:cap*2≤(aAe A++(V++(aAe B++z))).length:=by
   simp only[AF] at aa hy hz⊢;omega
  rw[a1]
  by_cases aj:j=i+1
  ·refine Ct.go Tryz.func205 Tryz.ntmps205 fun w0=> ?_
   repeat(refine sv ?_;intros)
   (refine Dn.post (Hr:=[[(b,row (aAe A++(V++(aAe B++z))) 141)]]) Tryz.results205 (hR:= ?_);refine⟨some ⟨b,0,none⟩,cap,_,rfl,?_,rfl⟩)
   exact Vec.mk' (rest:=z) oA15 oA9 ak oM ac
  ·have al:(aAe A++(V++aAe B)).length=(i+1+(n-j))*2:=by simp only[AF];omega
   obtain⟨u,a2,hu,_⟩:=aGc (vs:=aEu (n-(i+1+(n-j))) [.int .i64 0,.int .i64 0]) (c:=z) al (by rw[aCk];simp only[AF,AL,AV] at hy hz⊢;omega)
   simp only[AP] at a2
   have bf:(i+1+(n-j))*2+(n-(i+1+(n-j)))*2≤(aAe A++(V++(aAe B++z))).length:=oM
   refine Ct.go Tryz.func205 Tryz.ntmps205 fun w0=> ?_
   repeat(refine sv ?_;intros)
   (refine Dn.post (Hr:=[[(b,row (aAe A++(V++(aAe B++(aEu (n-(i+1+(n-j))) [.int .i64 0,.int .i64 0]++u)))) 141)]]) Tryz.results205 (hR:= ?_);refine⟨some ⟨b,0,none⟩,cap,_,rfl,?_,rfl⟩)
   refine Vec.mk' (rest:=aEu (n-(i+1+(n-j))) [.int .i64 0,.int .i64 0]++u) oA15 oA9 ?_ oM ac
   simp only[AF] at ak hu⊢
   omega
theorem aYk {w:World} {w0:World} {S:List Nat} {H:Hp} (ab:St w0 S w H) {ba oa la ca bb ob lb cb:Nat} {csa csb:List Value} {tA tB:TypeId} (ha:Has ba (row csa tA) H) (hb:Has bb (row csb tB) H) (ac:ba≠bb) (aa:csb.length≠0):
  (callFunc 221 #[.slice (some ⟨ba,oa,none⟩) la ca,.slice (some ⟨bb,ob,none⟩) lb cb]).run AC w= .ok (.value (.bool false)) w:=by
 rw[run_callFunc_extern Tryz.func221 (by kernel_rfl) (by kernel_rfl) (by kernel_rfl) (e:=Extern.SlicesOverlaps.overlaps #[142,142] #[4]) (by kernel_rfl),
  aVa (SliceT.und (P:=AC) (T:=142)) (fun w=>SliceT.size (P:=AC) (T:=142) w) ac (ha.st ab) (hb.st ab) aa]
 rfl
theorem Ins_ct (p:Option Addr) (cap:Nat) (A B:List Ext) (e:Ext) (c:aAc) (i n:Nat) (hi:A.length=i) (hn:n=i+B.length) (hm:n≤1000000) (bv cv:Nat) (aa:List Value) (hV:Vec 141 2 p n cap (aAe (A++B)) c):
  Ct AC 220 [.slice p n cap,.int .i64 (i:Int),.slice (some ⟨bv,0,none⟩) 1 cv] [c,[(bv,row (aAe [e]++aa) 141)]] fun v H'=>
   ∃p' cap' c',v= .slice p' (i+1+B.length) cap'∧Vec 141 2 p' (i+1+B.length) cap' (aAe (A++[e]++B)) c'∧H'=[c']:=by
 have ae:=hV
 have ao:(aAe [e]).length=2:=rfl
 have ac:(aAe A).length=i*2:=by rw[aCg,hi]
 have a8:(aAe B).length=B.length*2:=aCg B
 have a9:=aFx [e]
 have a7:=aFx B
 have bc:((aAe [e]++aa).drop 0).take (1*2)=aAe [e]:=aNo oM
 have be:(aAe [e]).length=1*2:=oM
 have bf:n≤cap:=by
  obtain⟨_,h|⟨b,rest,_,_,_,h,_⟩⟩:=hV
  ·omega
  ·exact h
 by_cases hB:B=[]
 ·subst hB
  simp only[AV,CD,AQ] at hn⊢
  obtain rfl:=hn.symm
  rw[AQ] at hV ae
  rw[aGv]
  have bg:(i:Int)≤(i:Int):=Int.le_refl _
  refine Ct.go Tryz.func220 Tryz.ntmps220 fun w0=> ?_
  repeat(refine sv ?_;intros)
  rename_i p' cap' c' ap
  (refine Dn.post (Hr:=[c']) Tryz.results220 (hR:= ?_);exact⟨p',cap',c',rfl,ap,rfl⟩)
 ·have bh:0<B.length:=List.length_pos_iff.2 hB
  obtain⟨aq,hV⟩:=hV
  rcases hV with⟨_,h0,_⟩|⟨b,rest,rfl,rfl,ag,bi,ah⟩
  ·omega
  clear ae
  simp only[aGv,AP] at aq ag⊢
  have ai:cap*2≤(aAe A++(aAe B++rest)).length:=by simp only[AF] at ag⊢;omega
  have aj:=ah
  simp only[maxLen] at aj
  generalize bk:aAe [e]=V at*
  have e5:(aAe B).length=(n-i)*2:=oM
  have hd:((aAe A++(aAe B++rest)).drop (i*2)).take ((n-i)*2)=aAe B:=aYj ac e5
  have au:i+1+B.length=n+1:=oM
  rw[au]
  have av:(aAe A++V).length=(i+1)*2:=by simp only[AF];omega
  have e6:((i:Int)+((1:Nat):Int)).toNat=i+1:=oM
  by_cases aw:n+1≤cap
  ·have e7:((n:Int)+((1:Nat):Int)).toNat=n+1:=oM
   have e8:Nat.min (n+1-i) (n+1-(i+1))=n-i:=by rw[show n+1-(i+1)=n-i by omega];exact Nat.min_eq_right oM
   have e9:Nat.min 1 (n+1-i)=1:=C0 oM
   have ax:((aAe A++(aAe B++rest)).take ((i+1)*2)).length=(i+1)*2:=by rw[BN];omega
   obtain⟨y,ad,hy,_⟩:=aGc (vs:=aAe B) (c:=(aAe A++(aAe B++rest)).drop ((i+1)*2)) ax (by rw[CK];omega)
   rw[BV] at ad
   have ak:(aAe A++(aAe B++rest)).take ((i+1)*2)=aAe A++(aAe B++rest).take 2:=by
    rw[List.take_append,ac,A4 oM]
    congr 2;omega
   rw[ak,AP] at ad
   have ay:(i+1)*2+(n-i)*2≤(aAe A++(aAe B++rest)).length:=oM
   have bo:((aAe B++rest).take 2).length=2:=by rw[BN,AF];omega
   have az:cap*2≤(aAe A++((aAe B++rest).take 2++(aAe B++y))).length:=by
    simp only[AF,CK] at hy ai⊢;omega
   obtain⟨z,al,hz,a0⟩:=aGc (vs:=V) (c:=(aAe B++rest).take 2++(aAe B++y)) ac oA9
   have am:z=aAe B++y:=by
    rw[a0,ao,CY oM,List.drop_of_length_le oM,AB]
   subst am
   have a1:i*2+1*2≤(aAe A++((aAe B++rest).take 2++(aAe B++y))).length:=oM
   have bp:((aAe A++(aAe B++rest)).drop (i*2)).take ((n-i)*2)=aAe B:=hd
   refine Ct.go Tryz.func220 Tryz.ntmps220 fun w0=> ?_
   repeat(refine sv ?_;intros)
   apply R1.nodup
   ·exact rfl
   intro a2
   have a3:bv≠b:=by
    intro h;subst h
    simp[keys] at a2
   apply R.callE
   ·exact rfl
   ·intro _ _ w a4
    exact aYk (a4) (csa:=V++aa) (csb:=aAe A++(aAe B++rest)) (by repeat(first|exact Has.here|apply Has.there)) (by repeat(first|exact Has.here|apply Has.there)) a3 oM
   ·exact rfl
   ·exact nle rfl
   repeat(refine sv ?_;intros)
   (refine Dn.post (Hr:=[[(b,row (aAe A++(V++(aAe B++y))) 141)]]) Tryz.results220 (hR:= ?_);refine⟨some ⟨b,0,none⟩,cap,_,rfl,?_,rfl⟩)
   refine Vec.mk' (rest:=y) oA15 oA9 ?_ oM ah
   simp only[AF] at az⊢
   omega
  ·have e7:(n:Int)+((1:Nat):Int)-(i:Int)=((n+1-i:Nat):Int):=oM
   have e8:Nat.min (n-i) (i+(n+1-i)-(i+1))=n-i:=C0 oM
   have e9:Nat.min 1 (i+(n+1-i)-i)=1:=C0 oM
   have a5:(aAe A++(aAe B++rest)).take (i*2)=aAe A:=by
    rw[List.take_append_of_le_length oM,A4 oM]
   have bq:(aEu (n+1-i) [Value.int .i64 0,Value.int .i64 0]).length=(n+1-i)*2:=by rw[aCk];rfl
   have bu:i*2≤(aAe A++(aAe B++rest)).length:=oM
   refine Ct.go Tryz.func220 Tryz.ntmps220 fun w0=> ?_
   repeat(refine sv ?_;intros)
   rename_i b' cap' ab an bz a6
   rw[a5] at an⊢
   obtain⟨y,ad,hy,_⟩:=aGc (vs:=V) (c:=aEu (n+1-i) [.int .i64 0,.int .i64 0]++ab) ac oA9
   rw[←AP] at ad
   have ay:i*2+1*2≤(aAe A++aEu (n+1-i) [.int .i64 0,.int .i64 0]++ab).length:=by simp only[AF];omega
   obtain⟨z,al,hz,_⟩:=aGc (vs:=aAe B) (c:=y) av (by simp only[AF] at hy⊢;omega)
   simp only[AP] at al
   have a1:(i+1)*2+(n-i)*2≤(aAe A++(V++y)).length:=by simp only[AF] at hy⊢;omega
   repeat(refine sv ?_;intros)
   (refine Dn.post (Hr:=[[(b',row (aAe A++(V++(aAe B++z))) 141)]]) Tryz.results220 (hR:= ?_);refine⟨some ⟨b',0,none⟩,cap',_,?_,?_,rfl⟩)
   ·show Value.slice (some ⟨b',0,none⟩) (i+(n+1-i)) cap'=_
    rw[show i+(n+1-i)=n+1 by omega]
   refine Vec.mk' (rest:=z) oA15 oA9 ?_ oM a6
   simp only[AF] at an hy hz⊢
   omega
structure Sp where
 n:Nat
 free:List Ext
def aAp (n:Nat) (p:Option Addr) (m cap:Nat):List Value:=[.int .i64 0,.int .i64 (n:Int),.slice p m cap]
def aEx (bs:Nat) (σ:Sp) (c:aAc):Prop:=
 ∃p cap vc,c=(bs,row (aAp σ.n p σ.free.length cap) 144)::vc∧Vec 141 2 p σ.free.length cap (aAe σ.free) vc∧fok σ.n σ.free∧σ.n≤1000000
theorem aDx {n:Nat}:∀{l:List Ext} {k:Nat},fok n l→(∀e∈l,k≤e.1)→k≤n→l.length≤n-k
 |[],_,_,_,_=>by simp
 |e::l,k,h,hk,hn=>by
  obtain⟨h1,h2,h3⟩:=aCo.1 h
  have:=aDx (k:=e.1+e.2) h2 (fun y hy=>EJ (h3 y hy)) h1.2
  have:=hk e AH
  simp only[AL]
  omega
theorem aEv (f b:Nat) (h:f+b≤1000000):CtQ AC 204 [.agg #[.int .i64 (f:Int),.int .i64 (b:Int)]] [] (.int .i64 ((f+b:Nat):Int)):=by
 have e:(f:Int)+(b:Int)=((f+b:Nat):Int):=oM
 have ew:IntKind.wrap .i64 ((f:Int)+(b:Int))=((f+b:Nat):Int):=by rw[e];exact aAd oM
 refine Ct.go Tryz.func204 Tryz.ntmps204 fun w0=> ?_
 repeat(refine st ?_;intros)
 (refine Dn.post (Hr:=[]) Tryz.results204 (hR:= ?_);exact⟨rfl,rfl⟩)
theorem aDz (bs:Nat) (σ:Sp) (c:aAc) (h:aEx bs σ c) (first n:Nat) (hn:1≤n) (hf:first+n≤σ.n):
  CtQ AC 202 [.pointer (some ⟨bs,0,none⟩),.int .i64 (first:Int),.int .i64 (n:Int)] [c] (.bool true):=by
 obtain⟨p,cap,vc,rfl,hV,aa,ab⟩:=h
 have hE:=aEv 0 σ.n oM
 rw[Nat.zero_add] at hE
 refine CtQ.conv (H2:=[[(bs,row (aAp σ.n p σ.free.length cap) 144)],vc]) ?_ oA15
 unfold aAp
 refine Ct.go Tryz.func202 Tryz.ntmps202 fun w0=> ?_
 repeat(first|(refine st ?_;intros)|refine cq hE ?_)
 (refine Dn.post (Hr:=[[(bs,row [.int .i64 0,.int .i64 (σ.n:Int),.slice p σ.free.length cap] 144)],vc]) Tryz.results202 (hR:= ?_);refine⟨?_,rfl⟩)
 first|rfl|(rw[aBf oM];rfl)
theorem aVd {A B:List Ext} {e:Ext} {rest:List Value} {i:Nat} (hi:A.length=i):(((aAe (A++e::B)++rest).drop (i*2)).take 2=[.int .i64 (e.1:Int),.int .i64 (e.2:Int)])∧
  (aAe (A++e::B)++rest)[i*2]? =some (.int .i64 (e.1:Int))∧(aAe (A++e::B)++rest)[i*2+1]? =some (.int .i64 (e.2:Int)):=by
 have hA:(aAe A).length=i*2:=by rw[aCg,hi]
 rw[aGv,AP]
 refine⟨?_,?_,?_⟩
 ·rw[←hA];simp[aAe]
 ·rw[A9 oM,hA,Nat.sub_self];rfl
 ·rw[A9 oM,hA,show i*2+1-i*2=1 by omega];rfl
theorem aNp {l:List Ext} {i:Nat} (h:i<l.length):∃A e B,l=A++e::B∧A.length=i:=by
 refine⟨l.take i,l[i],l.drop (i+1),?_,by simp;omega⟩
 rw[←List.drop_eq_getElem_cons h,BV]
theorem bDk (bs b1 b2 vb:Nat) (n cap first:Nat) (free:List Ext) (rest:List Value) (aa:fok n free) (hn:n≤1000000) (k:Nat) (hk:k<free.length) (A B:List Ext) (e:Ext) (hs:free=A++e::B) (hi:A.length=k):
  CtQ AC 219 [.int .i64 (k:Int),.pointer (some ⟨b1,0,none⟩),.pointer (some ⟨b2,0,none⟩)]
   [[(bs,row (aAp n (some ⟨vb,0,none⟩) free.length cap) 144)],[(vb,row (aAe free++rest) 141)],[(b1,row [.pointer (some ⟨bs,0,none⟩)] 82)],[(b2,row [.int .i64 (first:Int)] 3)]] (.bool (dec ((first:Int)<((e.1+e.2:Nat):Int)))):=by
 subst hs
 have he:=(aCu.1 aa).2.1
 have ab:=(aCo.1 he).1
 have hE:=aEv e.1 e.2 oM
 obtain⟨g1,g2,g3⟩:=aVd (rest:=rest) (B:=B) (e:=e) hi
 unfold aAp
 generalize aAe (A++e::B)++rest=cells at*
 refine Ct.go Tryz.func219 Tryz.ntmps219 fun w0=> ?_
 repeat(first|(refine st ?_;intros)|refine G.draw (id:=1) [(7,.quiet)] (h:= ?_)|refine cq hE ?_)
 (refine Dn.post (Hr:=[[(bs,row [.int .i64 0,.int .i64 (n:Int),.slice (some ⟨vb,0,none⟩) (A++e::B).length cap] 144)],[(vb,row cells 141)],[(b1,row [.pointer (some ⟨bs,0,none⟩)] 82)],[(b2,row [.int .i64 (first:Int)] 3)]]) Tryz.results219 (hR:= ?_);exact⟨rfl,rfl⟩)
theorem bFz (bs b1 b2:Nat) (n cap first:Nat) (p:Option Addr) (vc:aAc) (A B:List Ext) (ab:fok n (A++B)) (hn:n≤1000000) (hV:Vec 141 2 p (A++B).length cap (aAe (A++B)) vc) (m:Nat) (hm:m=(A++B).length) (hA:∀e∈A,e.1+e.2≤first) (hB:∀e∈B,first<e.1+e.2):
  CtQ AC 218 [.int .i64 (m:Int),.func (.func 219) #[] #[.pointer (some ⟨b1,0,none⟩),.pointer (some ⟨b2,0,none⟩)]]
   [[(bs,row (aAp n p (A++B).length cap) 144)],vc,[(b1,row [.pointer (some ⟨bs,0,none⟩)] 82)],[(b2,row [.int .i64 (first:Int)] 3)]] (.int .i64 (A.length:Int)):=by
 have ai:=aDx ab (k:=0) oM oM
 have aj:m≤1000000:=oM
 subst hm
 refine Ct.go Tryz.func218 Tryz.ntmps218 fun w0=> ?_
 repeat(first|(refine st ?_;intros)|refine cq hF ?_)
 refine G.loop (X:=Nat×Nat) (fun x=>x.1≤A.length∧A.length≤x.2∧x.2≤(A++B).length) (fun x=>[(6,.int .i64 (x.2:Int)),(5,.int .i64 (x.1:Int)),(1,.func (.func 219) #[] #[.pointer (some ⟨b1,0,none⟩),.pointer (some ⟨b2,0,none⟩)])])
  (fun _=>[[(bs,row (aAp n p (A++B).length cap) 144)],vc,[(b1,row [.pointer (some ⟨bs,0,none⟩)] 82)],[(b2,row [.int .i64 (first:Int)] 3)]]) (fun x=>x.2-x.1) (0,(A++B).length) ⟨Nat.zero_le _,by simp,Nat.le_refl _⟩ (body:= ?_)
 rintro⟨i,j⟩ ⟨hi,hj,ac⟩
 dsimp only at hi hj ac⊢
 by_cases ak:i<j
 ·have ad:((i:Int)+(j:Int)).fdiv (2^min (Int.toNat 1) IntKind.u64.bits)=(((i+j)/2:Nat):Int):=by
   have e0:(2:Int)^min (Int.toNat 1) IntKind.u64.bits=2:=by decide
   rw[e0,Int.fdiv_eq_ediv_of_nonneg _ oA14]
   omega
  generalize hh:(i+j)/2=h at ad
  have al:i≤h∧h<j:=oM
  obtain⟨A',e,B',hs,aa⟩:=aNp (l:=A++B) (i:=h) oM
  obtain⟨_,h0|⟨vb,rest,hp,ae,_⟩⟩:=hV
  ·omega
  have hF:=bDk bs b1 b2 vb n cap first (A++B) rest ab hn h oM A' B' e hs aa
  rw[←hp,←ae] at hF
  by_cases ag:h<A.length
  ·have hm:e∈A:=by
    have h1:(A++B)[h]? =some e:=by rw[hs,A9 oM];simp[aa]
    rw[BI ag] at h1
    exact A3 h1
   have ah:=hA e hm
   repeat(first|(refine st ?_;intros)|refine cq hF ?_)
   exact Dn.round (h+1,j) ⟨oM,oM,oM⟩ oD
  ·have hm:e∈B:=by
    have h1:(A++B)[h]? =some e:=by rw[hs,A9 oM];simp[aa]
    rw[A9 oM] at h1
    exact A3 h1
   have ah:=hB e hm
   repeat(first|(refine st ?_;intros)|refine cq hF ?_)
   exact Dn.round (i,h) ⟨oM,oM,oM⟩ oD
 ·obtain rfl:i=A.length:=by omega
  repeat(first|(refine st ?_;intros)|refine cq hF ?_)
  (refine Dn.post (Hr:=[[(bs,row (aAp n p (A++B).length cap) 144)],vc,[(b1,row [.pointer (some ⟨bs,0,none⟩)] 82)],[(b2,row [.int .i64 (first:Int)] 3)]]) Tryz.results218 (hR:= ?_);exact⟨rfl,rfl⟩)
theorem aEa (bs:Nat) (n cap first:Nat) (p:Option Addr) (vc:aAc) (A B:List Ext) (aa:fok n (A++B)) (hn:n≤1000000) (hV:Vec 141 2 p (A++B).length cap (aAe (A++B)) vc) (hA:∀e∈A,e.1+e.2≤first) (hB:∀e∈B,first<e.1+e.2):
  CtQ AC 203 [.pointer (some ⟨bs,0,none⟩),.int .i64 (first:Int)] [[(bs,row (aAp n p (A++B).length cap) 144)],vc] (.int .i64 (A.length:Int)):=by
 have hS:=fun b1 b2=>bFz bs b1 b2 n cap first p vc A B aa hn hV (A++B).length rfl hA hB
 unfold aAp at hS⊢
 refine Ct.go Tryz.func203 Tryz.ntmps203 fun w0=> ?_
 repeat(first|(refine st ?_;intros)|refine cq hS ?_)
 (refine Dn.post (Hr:=[[(bs,row [.int .i64 0,.int .i64 (n:Int),.slice p (A++B).length cap] 144)],vc]) Tryz.results203 (hR:= ?_);exact⟨rfl,rfl⟩)
theorem aEb (p:Option Addr) (cap:Nat) (A B Xs:List Ext) (e:Ext) (c:aAc) (i n:Nat) (ii jj x1 x2:Int) (hi:A.length=i) (ac:ii=(i:Int)) (ab:jj=((i+Xs.length:Nat):Int)) (hx:Xs.length≤2) (hn:n=i+Xs.length+B.length) (hm:n≤1000000) (bv cv:Nat) (aa:List Value)
  (h1:x1=(e.1:Int)) (h2:x2=(e.2:Int)) (hV:Vec 141 2 p n cap (aAe (A++Xs++B)) c):
  Ct AC 205 [.slice p n cap,.int .i64 ii,.int .i64 jj,.slice (some ⟨bv,0,none⟩) 1 cv] [c,[(bv,row ([.int .i64 x1,.int .i64 x2]++aa) 141)]] fun v H'=>
   ∃p' cap' c',v= .slice p' (i+1+B.length) cap'∧Vec 141 2 p' (i+1+B.length) cap' (aAe (A++[e]++B)) c'∧H'=[c']:=by
 subst h1 h2
 by_cases hX:Xs=[]
 ·subst hX
  simp only[AV,CD,AQ] at ab hn hV
  subst ac ab
  have hI:=Ins_ct p cap A B e c i n hi hn hm bv cv aa hV
  have ag:n≤cap:=by
   obtain⟨_,h|⟨b,rest,_,_,_,h,_⟩⟩:=hV
   ·omega
   ·exact h
  refine Ct.go Tryz.func205 Tryz.ntmps205 fun w0=> ?_
  repeat(refine sv ?_;intros)
  refine R.call (hct:=hI) (h:= ?_)
  rintro _ _ ⟨p',cap',c',rfl,ad,rfl⟩
  try dsimp only[AA,AB]
  repeat(refine sv ?_;intros)
  (refine Dn.post (Hr:=[c']) Tryz.results205 (hR:= ?_);exact⟨p',cap',c',rfl,ad,rfl⟩)
 ·have ae:1≤Xs.length:=List.length_pos_iff.2 hX
  subst ac
  exact bPn p cap A B Xs e c i (i+Xs.length) n hi rfl ae hx hn hm bv cv aa jj ab hV
theorem bPo (bs:Nat) (n cap:Nat) (p:Option Addr) (vc:aAc) (A B:List Ext) (e:Ext) (ae:fok n (A++e::B)) (hn:n≤1000000) (hV:Vec 141 2 p (A++e::B).length cap (aAe (A++e::B)) vc) (m:Nat) (ak:1≤m) (ay:m≤e.2):
  Ct AC 206 [.pointer (some ⟨bs,0,none⟩),.int .i64 (e.1:Int),.int .i64 (m:Int)] [[(bs,row (aAp n p (A++e::B).length cap) 144)],vc] fun v H'=>
   v= .int .i64 0∧∃p' cap' vc' free',H'=[[(bs,row (aAp n p' free'.length cap') 144)],vc']∧Vec 141 2 p' free'.length cap' (aAe free') vc'∧free'=A++((if m<e.2 then[(e.1+m,e.2-m)] else[])++B):=by
 have aq:=aDx ae (k:=0) oM oM
 obtain⟨az,al,am⟩:=aCu.1 ae
 obtain⟨a0,au,an⟩:=aCo.1 al
 have hI:=aDz bs ⟨n,A++e::B⟩ _ ⟨p,cap,vc,rfl,hV,ae,hn⟩ e.1 m ak oD
 have ao:CtQ AC 202 [.pointer (some ⟨bs,0,none⟩),.int .i64 (e.1:Int),.int .i64 (m:Int)] [[(bs,row (aAp n p (A++e::B).length cap) 144)],vc] (.bool true):=CtQ.conv hI oA15
 clear hI
 have hI:=ao
 have ab:=aEa bs n cap e.1 p vc A (e::B) ae hn hV (fun a ha=>EJ (am a ha e AH)) (by
  intro y hy
  rcases AM.1 hy with rfl|hy
  ·omega
  ·have:=an y hy;omega)
 have hE:=aEv e.1 e.2 oM
 have hl:(A++e::B).length=A.length+1+B.length:=by simp;omega
 have ag:=hV
 obtain⟨_,h0|⟨vb,rest,rfl,rfl,a1,a2,a3⟩⟩:=hV
 ·omega
 obtain⟨g1,g2,g3⟩:=aVd (rest:=rest) (B:=B) (e:=e) (rfl:A.length=A.length)
 unfold aAp at hI ab⊢
 rw[hl] at hI ab ag⊢
 generalize ap:aAe (A++e::B)++rest=cells at*
 have ah:Vec 141 2 (some ⟨vb,0,none⟩) (A.length+1+B.length) cap (aAe (A++[e]++B)) [(vb,row cells 141)]:=by
  rw[AP];exact ag
 by_cases ai:m<e.2
 ·have hR:=fun bv cv ac x1 x2 h1 h2=>aEb (some ⟨vb,0,none⟩) cap A B [e] (e.1+m,e.2-m) [(vb,row cells 141)] A.length (A.length+1+B.length) (A.length:Int) ((A.length:Int)+1) x1 x2 rfl rfl oA15 oA15 oA15 oM bv cv ac h1 h2 ah
  have hN:=Vec.nil 141 2
  refine Ct.go Tryz.func206 Tryz.ntmps206 fun w0=> ?_
  repeat(first|(refine st ?_;intros)|refine cq hI ?_|refine cq ab ?_|refine cq hE ?_)
  rename_i p' cap' c' aj
  have ad:Vec 141 2 p' 1 cap' [.int .i64 ((e.1:Int)+(m:Int)),.int .i64 (((e.1+e.2:Nat):Int)-(e.1:Int)-(m:Int))] c':=aj
  clear aj
  obtain⟨_,h0|⟨bv,ac,rfl,rfl,av,aw,ax⟩⟩:=ad
  ·omega
  repeat(first|(refine st ?_;intros)|refine cq hI ?_|refine cq ab ?_|refine cq hE ?_)
  refine R.call (hct:=hR bv cap' ac ((e.1:Int)+(m:Int)) (((e.1+e.2:Nat):Int)-(e.1:Int)-(m:Int)) oD oD) (h:= ?_)
  rintro _ _ ⟨p2,aa,c2,rfl,ad,rfl⟩
  try dsimp only[AA,AB]
  repeat(first|(refine st ?_;intros)|refine cq hI ?_|refine cq ab ?_|refine cq hE ?_)
  (refine Dn.post (Hr:=[[(bs,row [.int .i64 0,.int .i64 (n:Int),.slice p2 (A.length+1+B.length) aa] 144)],c2]) Tryz.results206 (hR:= ?_);refine⟨rfl,p2,aa,c2,A++[(e.1+m,e.2-m)]++B,?_,?_,?_⟩)
  ·rw[show(A++[(e.1+m,e.2-m)]++B).length=A.length+1+B.length by simp;omega]
  ·rw[show(A++[(e.1+m,e.2-m)]++B).length=A.length+1+B.length by simp;omega];exact ad
  ·simp[ai]
 ·have hR:=bPm (some ⟨vb,0,none⟩) cap A B e [(vb,row cells 141)] A.length (A.length+1+B.length) rfl rfl oM ah
  refine Ct.go Tryz.func206 Tryz.ntmps206 fun w0=> ?_
  repeat(first|(refine st ?_;intros)|refine cq hI ?_|refine cq ab ?_|refine cq hE ?_)
  refine R.call (hct:=hR) (h:= ?_)
  rintro _ _ ⟨p2,aa,c2,rfl,ad,rfl⟩
  try dsimp only[AA,AB]
  repeat(first|(refine st ?_;intros)|refine cq hI ?_|refine cq ab ?_|refine cq hE ?_)
  (refine Dn.post (Hr:=[[(bs,row [.int .i64 0,.int .i64 (n:Int),.slice p2 (A.length+B.length) aa] 144)],c2]) Tryz.results206 (hR:= ?_);refine⟨rfl,p2,aa,c2,A++B,?_,?_,?_⟩)
  ·rw[AF]
  ·rw[AF];exact ad
  ·simp[ai]
theorem bLe {n:Nat} {A B:List Ext} {e:Ext} {m:Nat} (h:fok n (A++e::B)) (h1:1≤m) (h2:m≤e.2):fok n (A++((if m<e.2 then[(e.1+m,e.2-m)] else[])++B)):=by
 obtain⟨hA,hB,aa⟩:=aCu.1 h
 obtain⟨he,ab,ac⟩:=aCo.1 hB
 split
 ·refine aCu.2 ⟨hA,aCo.2 ⟨⟨oD,oD⟩,ab,fun y hy=> ?_⟩,fun x hx y hy=> ?_⟩
  ·have:=ac y hy;dsimp only;omega
  ·rcases AM.1 hy with rfl|hy
   ·have:=aa x hx e AH;dsimp only;omega
   ·exact aa x hx y (AI _ hy)
 ·rw[AB]
  exact aCu.2 ⟨hA,ab,fun x hx y hy=>aa x hx y (AI _ hy)⟩
theorem bLf {A B:List Ext} {e:Ext} {n m:Nat} (h:fok n (A++e::B)) (h1:1≤m) (h2:m≤e.2) (x:Nat):
  inF (A++((if m<e.2 then[(e.1+m,e.2-m)] else[])++B)) x↔inF (A++e::B) x∧¬(e.1≤x∧x<e.1+m):=by
 obtain⟨hA,hB,ad⟩:=aCu.1 h
 obtain⟨he,ag,ae⟩:=aCo.1 hB
 have aa:inF A x→x<e.1:=by
  rintro⟨y,hy,h3,h4⟩
  have:=ad y hy e AH
  omega
 have ab:inF B x→e.1+e.2<x:=by
  rintro⟨y,hy,h3,h4⟩
  have:=ae y hy
  omega
 by_cases ac:m<e.2
 ·simp only[ac,if_true,aOr,aDs,aYg,or_false]
  constructor
  ·rintro(h|h|h)
   ·have:=aa h;exact⟨.inl h,oM⟩
   ·exact⟨.inr (.inl oM),oM⟩
   ·have:=ab h;exact⟨.inr (.inr h),oM⟩
  ·rintro⟨h|h|h,h5⟩
   ·exact .inl h
   ·exact .inr (.inl oM)
   ·exact .inr (.inr h)
 ·simp only[ac,if_false,AB,aOr,aDs]
  constructor
  ·rintro(h|h)
   ·have:=aa h;exact⟨.inl h,oM⟩
   ·have:=ab h;exact⟨.inr (.inr h),oM⟩
  ·rintro⟨h|h|h,h5⟩
   ·exact .inl h
   ·omega
   ·exact .inr h
theorem bDl {A B:List Ext} {e:Ext} {m:Nat} (h2:m≤e.2):aBg (A++((if m<e.2 then[(e.1+m,e.2-m)] else[])++B))+m=aBg (A++e::B):=by
 split<;>simp<;>omega
theorem bLg {A B:List Ext} {e:Ext} {m:Nat}:big (A++e::B)≤big (A++((if m<e.2 then[(e.1+m,e.2-m)] else[])++B))+m:=by
 split<;>simp only[aYi,big,AB]<;>omega
theorem bPp (bs:Nat) (σ:Sp) (c:aAc) (h:aEx bs σ c) (m:Nat) (hm:1≤m) (hb:m≤big σ.free):
  Ct AC 159 [.pointer (some ⟨bs,0,none⟩),.int .i64 (m:Int)] [c] fun v H'=>
   ∃(f:Nat) (c':aAc) (σ':Sp),v= .tuple #[.int .i64 (f:Int),.int .i64 0]∧aEx bs σ' c'∧σ'.n=σ.n∧(∀x,f≤x→x<f+m→inF σ.free x)∧f+m≤σ.n∧
    (∀x,inF σ'.free x↔inF σ.free x∧¬(f≤x∧x<f+m))∧aBg σ'.free+m=aBg σ.free∧big σ.free≤big σ'.free+m∧H'=[c']:=by
 obtain⟨n,free⟩:=σ
 dsimp only at hb
 rcases aVc m free with al|⟨A,e,B,rfl,ah,hA⟩
 ·exfalso
  obtain⟨e,he,h2⟩:=bFy (l:=free) oM
  have:=al e he
  omega
 obtain⟨p,cap,vc,rfl,hV,ac,hn⟩:=h
 dsimp only at hV ac hn
 have hH:=bPo bs n cap p vc A B e ac hn hV m hm ah
 refine Ct.conv (H2:=[[(bs,row (aAp n p (A++e::B).length cap) 144)],vc]) (R2:=fun v H'=>v= .tuple #[.int .i64 (e.1:Int),.int .i64 0]∧∃p' ab ad aa,H'=[[(bs,row (aAp n p' aa.length ab) 144)],ad]∧
  Vec 141 2 p' aa.length ab (aAe aa) ad∧aa=A++((if m<e.2 then[(e.1+m,e.2-m)] else[])++B)) ?_ oA15 ?_
 ·have aq:=aDx ac (k:=0) oM oM
  have hl:(A++e::B).length=A.length+1+B.length:=by simp;omega
  have am:=ac.1
  obtain⟨_,h0|⟨vb,rest,rfl,rfl,au,av,aw⟩⟩:=hV
  ·omega
  generalize aj:A++e::B=free at*
  unfold aAp at hH⊢
  generalize an:aAe free++rest=cells at*
  refine Ct.go Tryz.func159 Tryz.ntmps159 fun w0=> ?_
  repeat(first|(refine st ?_;intros)|refine G.draw (id:=9) [(6,.eff [1])] (h:= ?_))
  refine G.loop (X:=Nat) (fun i=>i≤A.length) (fun i=>[(17,.int .i64 (i:Int)),(16,.int .i64 (free.length:Int)),(15,.slice (some ⟨vb,0,none⟩) free.length cap),(0,.pointer (some ⟨bs,0,none⟩)),(1,.int .i64 (m:Int))])
   (fun _=>[[(bs,row [.int .i64 0,.int .i64 (n:Int),.slice (some ⟨vb,0,none⟩) free.length cap] 144)],[(vb,row cells 141)]]) (fun i=>A.length-i) 0 oM (body:= ?_)
  intro i hi
  obtain⟨A',x,B',hs,ak⟩:=aNp (l:=free) (i:=i) oM
  obtain⟨g1,g2,g3⟩:=aVd (rest:=rest) (B:=B') (e:=x) ak
  rw[←hs,an] at g1 g2 g3
  have ag:free[i]? =some x:=by rw[hs,A9 oM];simp[ak]
  have ax:=am x (A3 ag)
  by_cases ao:i<A.length
  ·have ay:x.2<m:=by
    rw[←aj,BI ao] at ag
    exact hA x (A3 ag)
   repeat(first|(refine st ?_;intros)|refine G.draw (id:=9) [(6,.eff [1])] (h:= ?_))
   exact Dn.round (i+1) oM oM
  ·obtain rfl:i=A.length:=by omega
   have ap:x=e:=by
    rw[←aj] at ag
    simpa using ag.symm
   subst ap
   repeat(first|(refine st ?_;intros)|refine G.draw (id:=9) [(6,.eff [1])] (h:= ?_))
   refine R.callX (hct:=hH) (h:= ?_)
   rintro _ _ ⟨rfl,p',ab,ad,aa,rfl,ai,ae⟩
   try dsimp only[AA,AB]
   refine nx ?_
   repeat(first|(refine st ?_;intros)|refine G.draw (id:=9) [(6,.eff [1])] (h:= ?_))
   (refine Dn.post (Hr:=[[(bs,row [.int .i64 0,.int .i64 (n:Int),.slice p' aa.length ab] 144)],ad]) Tryz.results159 (hR:= ?_);exact⟨rfl,p',ab,ad,aa,rfl,ai,ae⟩)
 ·rintro v H' ⟨rfl,p',ab,ad,aa,rfl,ai,ae⟩
  refine⟨_,⟨e.1,_,⟨n,aa⟩,rfl,⟨p',ab,ad,rfl,ai,?_,hn⟩,rfl,?_,?_,?_,?_,?_,rfl⟩,by simp⟩
  ·rw[ae];exact bLe ac hm ah
  ·intro x h1 h2
   dsimp only
   rw[aOr,aDs]
   exact .inr (.inl oM)
  ·have:=ac.1 e oA15;dsimp only;omega
  ·intro x;rw[ae];exact bLf ac hm ah x
  ·rw[ae];exact bDl ah
  ·rw[ae];exact bLg
theorem bGa (bs:Nat) (σ:Sp) (c:aAc) (h:aEx bs σ c) (m:Nat) (hm:1≤m) (hb:big σ.free<m) (ag:m≤1000000000):
  CtQ AC 159 [.pointer (some ⟨bs,0,none⟩),.int .i64 (m:Int)] [c] (.tuple #[.int .i64 0,.int .i64 5]):=by
 obtain⟨n,free⟩:=σ
 dsimp only at hb
 obtain⟨p,cap,vc,rfl,hV,aa,hn⟩:=h
 dsimp only at hV aa hn
 have ae:=aDx aa (k:=0) oM oM
 refine CtQ.conv (H2:=[[(bs,row (aAp n p free.length cap) 144)],vc]) ?_ oA15
 unfold aAp
 refine Ct.go Tryz.func159 Tryz.ntmps159 fun w0=> ?_
 repeat(first|(refine st ?_;intros)|refine G.draw (id:=9) [(6,.eff [1])] (h:= ?_))
 refine G.loop (X:=Nat) (fun i=>i≤free.length) (fun i=>[(17,.int .i64 (i:Int)),(16,.int .i64 (free.length:Int)),(15,.slice p free.length cap),(0,.pointer (some ⟨bs,0,none⟩)),(1,.int .i64 (m:Int))])
  (fun _=>[[(bs,row [.int .i64 0,.int .i64 (n:Int),.slice p free.length cap] 144)],vc]) (fun i=>free.length-i) 0 oM (body:= ?_)
 intro i hi
 by_cases ah:i<free.length
 ·obtain⟨A',x,B',hs,ab⟩:=aNp (l:=free) (i:=i) oM
  obtain⟨_,h0|⟨vb,rest,hp,ad,ai,aj,ak⟩⟩:=hV
  ·omega
  obtain⟨g1,g2,g3⟩:=aVd (rest:=rest) (B:=B') (e:=x) ab
  rw[←hs] at g1 g2 g3
  have ac:free[i]? =some x:=by rw[hs,A9 oM];simp[ab]
  have al:=aa.1 x (A3 ac)
  have am:x.2<m:=by
   have:=bFx (A3 ac)
   omega
  rw[hp,ad]
  generalize aAe free++rest=cells at*
  repeat(first|(refine st ?_;intros)|refine G.draw (id:=9) [(6,.eff [1])] (h:= ?_))
  exact Dn.round (i+1) oM oM
 ·obtain rfl:i=free.length:=by omega
  repeat(first|(refine st ?_;intros)|refine G.draw (id:=9) [(6,.eff [1])] (h:= ?_))
  (refine Dn.post (Hr:=[[(bs,row [.int .i64 0,.int .i64 (n:Int),.slice p free.length cap] 144)],vc]) Tryz.results159 (hR:= ?_);exact⟨rfl,rfl⟩)
def Gave (n:Nat) (free free':List Ext) (first m:Nat):Prop:=fok n free'∧(∀x,inF free' x↔inF free x∨(first≤x∧x<first+m))∧aBg free'=aBg free+m∧big free≤big free'
section
variable (bs:Nat) (n cap:Nat) (p:Option Addr) (vc:aAc) (first m:Nat) (hn:n≤1000000) (hm:1≤m) (hfm:first+m≤n)
include hn hm hfm
theorem bPq (ab:fok n (([]:List Ext)++([]:List Ext))) (hA:∀e∈(([]:List Ext):List Ext),e.1+e.2≤first) (hB:∀e∈(([]:List Ext):List Ext),first<e.1+e.2) (hV:Vec 141 2 p (([]:List Ext)++([]:List Ext)).length cap (aAe (([]:List Ext)++([]:List Ext))) vc):
  Ct AC 154 [.pointer (some ⟨bs,0,none⟩),.int .i64 (first:Int),.int .i64 (m:Int)] [[(bs,row (aAp n p (([]:List Ext)++([]:List Ext)).length cap) 144)],vc] fun v H'=>
   v= .int .i64 0∧∃p' cap' vc',H'=[[(bs,row (aAp n p' ([]++[(first,m)]++[]).length cap') 144)],vc']∧Vec 141 2 p' ([]++[(first,m)]++[]).length cap' (aAe ([]++[(first,m)]++[])) vc':=by
 have hI:CtQ AC 202 [.pointer (some ⟨bs,0,none⟩),.int .i64 (first:Int),.int .i64 (m:Int)] [[(bs,row (aAp n p (([]:List Ext)++([]:List Ext)).length cap) 144)],vc] (.bool true):=CtQ.conv (aDz bs ⟨n,(([]:List Ext)++([]:List Ext))⟩ _ ⟨p,cap,vc,rfl,hV,ab,hn⟩ first m hm hfm) oA15
 have aa:=aEa bs n cap first p vc ([]:List Ext) ([]:List Ext) ab hn hV hA hB
 have ae:=aDx ab (k:=0) oM oM
 have hl:(([]:List Ext)++([]:List Ext)).length=0+0:=by simp<;>omega
 have ah:(([]:List Ext):List Ext).length=0:=by simp
 have ai:([]++[(first,m)]++[]).length=0+1+0:=by simp<;>omega
 have aj:=ab.1
 have ag:=aEv first m oM
 rw[hl] at hI aa ae⊢
 rw[ah] at aa
 rw[hl] at hV
 rw[ai]
 unfold aAp at hI aa⊢
 have hR:=fun bv=>aEb p cap [] [] [] (first,m) vc 0 (0+0) ((0:Nat):Int) ((0:Nat):Int) (first:Int) (m:Int) oA15 oM oA7 oA15 oA7 oM bv 1 [] oA10 oA5 hV
 simp only[AQ] at hR
 refine Ct.go Tryz.func154 Tryz.ntmps154 fun w0=> ?_
 repeat(first|(refine st ?_;intros)|refine G.draw (id:=7) [(17,.quiet)] (h:= ?_)|refine G.draw [] (h:= ?_)|refine cq hI ?_|refine cq aa ?_|refine cq hE0 ?_|refine cq ag ?_)
 refine R.call (hct:=hR _) (h:= ?_)
 rintro _ _ ⟨p2,ac,c2,rfl,ad,rfl⟩
 try dsimp only[AA,AB]
 repeat(first|(refine st ?_;intros)|refine G.draw (id:=7) [(17,.quiet)] (h:= ?_)|refine G.draw [] (h:= ?_)|refine cq hI ?_|refine cq aa ?_|refine cq hE0 ?_|refine cq ag ?_)
 (refine Dn.post (Hr:=[[(bs,row [.int .i64 0,.int .i64 (n:Int),.slice p2 (0+1+([]:List Ext).length) ac] 144)],c2]) Tryz.results154 (hR:= ?_);refine⟨rfl,p2,ac,c2,?_,?_⟩)
 ·first|rfl|(rw[show([]:List Ext).length=0 by simp])
 ·first|exact ad|(simpa using ad)|(rw[show 0+1+0=0+1+([]:List Ext).length by simp];exact ad)
theorem bPr (B2:List Ext) (e1:Ext) (hb:first+m<e1.1) (ab:fok n (([]:List Ext)++(e1::B2))) (hA:∀e∈(([]:List Ext):List Ext),e.1+e.2≤first) (hB:∀e∈((e1::B2):List Ext),first<e.1+e.2) (hV:Vec 141 2 p (([]:List Ext)++(e1::B2)).length cap (aAe (([]:List Ext)++(e1::B2))) vc):
  Ct AC 154 [.pointer (some ⟨bs,0,none⟩),.int .i64 (first:Int),.int .i64 (m:Int)] [[(bs,row (aAp n p (([]:List Ext)++(e1::B2)).length cap) 144)],vc] fun v H'=>
   v= .int .i64 0∧∃p' cap' vc',H'=[[(bs,row (aAp n p' ([]++[(first,m)]++(e1::B2)).length cap') 144)],vc']∧Vec 141 2 p' ([]++[(first,m)]++(e1::B2)).length cap' (aAe ([]++[(first,m)]++(e1::B2))) vc':=by
 have hI:CtQ AC 202 [.pointer (some ⟨bs,0,none⟩),.int .i64 (first:Int),.int .i64 (m:Int)] [[(bs,row (aAp n p (([]:List Ext)++(e1::B2)).length cap) 144)],vc] (.bool true):=CtQ.conv (aDz bs ⟨n,(([]:List Ext)++(e1::B2))⟩ _ ⟨p,cap,vc,rfl,hV,ab,hn⟩ first m hm hfm) oA15
 have aa:=aEa bs n cap first p vc ([]:List Ext) (e1::B2) ab hn hV hA hB
 have ae:=aDx ab (k:=0) oM oM
 have hl:(([]:List Ext)++(e1::B2)).length=0+(B2.length+1):=by simp<;>omega
 have ah:(([]:List Ext):List Ext).length=0:=by simp
 have ai:([]++[(first,m)]++(e1::B2)).length=0+1+(B2.length+1):=by simp<;>omega
 have aj:=ab.1
 have ag:=aEv first m oM
 have al:=aj e1 oA15
 rw[hl] at hI aa ae⊢
 rw[ah] at aa
 rw[hl] at hV
 rw[ai]
 unfold aAp at hI aa⊢
 have ak:=hV
 obtain⟨_,h0|⟨vb,rest,rfl,rfl,am,an,ao⟩⟩:=hV
 ·omega
 obtain⟨k1,k2,k3⟩:=aVd (A:=([]:List Ext)) (rest:=rest) (B:=B2) (e:=e1) (i:=0) oA15
 generalize ap:aAe (([]:List Ext)++(e1::B2))++rest=cells at*
 have hR:=fun bv=>aEb (some ⟨vb,0,none⟩) cap [] (e1::B2) [] (first,m) [(vb,row cells 141)] 0 (0+(B2.length+1)) ((0:Nat):Int) ((0:Nat):Int) (first:Int) (m:Int) oA15 oM oA7 oA15 oA7 oM bv 1 [] oA10 oA5
  (by rw[show[]++[]++(e1::B2)=(([]:List Ext)++(e1::B2)) by simp];exact ak)
 simp only[AQ] at hR
 refine Ct.go Tryz.func154 Tryz.ntmps154 fun w0=> ?_
 repeat(first|(refine st ?_;intros)|refine G.draw (id:=7) [(17,.quiet)] (h:= ?_)|refine G.draw [] (h:= ?_)|refine cq hI ?_|refine cq aa ?_|refine cq hE0 ?_|refine cq ag ?_)
 refine R.call (hct:=hR _) (h:= ?_)
 rintro _ _ ⟨p2,ac,c2,rfl,ad,rfl⟩
 try dsimp only[AA,AB]
 repeat(first|(refine st ?_;intros)|refine G.draw (id:=7) [(17,.quiet)] (h:= ?_)|refine G.draw [] (h:= ?_)|refine cq hI ?_|refine cq aa ?_|refine cq hE0 ?_|refine cq ag ?_)
 (refine Dn.post (Hr:=[[(bs,row [.int .i64 0,.int .i64 (n:Int),.slice p2 (0+1+((e1::B2):List Ext).length) ac] 144)],c2]) Tryz.results154 (hR:= ?_);refine⟨rfl,p2,ac,c2,?_,?_⟩)
 ·first|rfl|(rw[show((e1::B2):List Ext).length=(B2.length+1) by simp])
 ·first|exact ad|(simpa using ad)|(rw[show 0+1+(B2.length+1)=0+1+((e1::B2):List Ext).length by simp];exact ad)
theorem bPs (B2:List Ext) (e1:Ext) (hb:e1.1=first+m) (ab:fok n (([]:List Ext)++(e1::B2))) (hA:∀e∈(([]:List Ext):List Ext),e.1+e.2≤first) (hB:∀e∈((e1::B2):List Ext),first<e.1+e.2) (hV:Vec 141 2 p (([]:List Ext)++(e1::B2)).length cap (aAe (([]:List Ext)++(e1::B2))) vc):
  Ct AC 154 [.pointer (some ⟨bs,0,none⟩),.int .i64 (first:Int),.int .i64 (m:Int)] [[(bs,row (aAp n p (([]:List Ext)++(e1::B2)).length cap) 144)],vc] fun v H'=>
   v= .int .i64 0∧∃p' cap' vc',H'=[[(bs,row (aAp n p' ([]++[(first,m+e1.2)]++B2).length cap') 144)],vc']∧Vec 141 2 p' ([]++[(first,m+e1.2)]++B2).length cap' (aAe ([]++[(first,m+e1.2)]++B2)) vc':=by
 have hI:CtQ AC 202 [.pointer (some ⟨bs,0,none⟩),.int .i64 (first:Int),.int .i64 (m:Int)] [[(bs,row (aAp n p (([]:List Ext)++(e1::B2)).length cap) 144)],vc] (.bool true):=CtQ.conv (aDz bs ⟨n,(([]:List Ext)++(e1::B2))⟩ _ ⟨p,cap,vc,rfl,hV,ab,hn⟩ first m hm hfm) oA15
 have aa:=aEa bs n cap first p vc ([]:List Ext) (e1::B2) ab hn hV hA hB
 have ae:=aDx ab (k:=0) oM oM
 have hl:(([]:List Ext)++(e1::B2)).length=0+(B2.length+1):=by simp<;>omega
 have ah:(([]:List Ext):List Ext).length=0:=by simp
 have ai:([]++[(first,m+e1.2)]++B2).length=0+1+B2.length:=by simp<;>omega
 have aj:=ab.1
 have ag:=aEv first m oM
 have al:=aj e1 oA15
 rw[hl] at hI aa ae⊢
 rw[ah] at aa
 rw[hl] at hV
 rw[ai]
 unfold aAp at hI aa⊢
 have ak:=hV
 obtain⟨_,h0|⟨vb,rest,rfl,rfl,am,an,ao⟩⟩:=hV
 ·omega
 obtain⟨k1,k2,k3⟩:=aVd (A:=([]:List Ext)) (rest:=rest) (B:=B2) (e:=e1) (i:=0) oA15
 generalize ap:aAe (([]:List Ext)++(e1::B2))++rest=cells at*
 have hR:=fun bv=>aEb (some ⟨vb,0,none⟩) cap [] B2 [e1] (first,m+e1.2) [(vb,row cells 141)] 0 (0+(B2.length+1)) ((0:Nat):Int) (((0:Nat):Int)+1) (first:Int) ((m:Int)+(e1.2:Int)) oA15 oM oA7 oA15 oA7 oM bv 1 [] oA10 oA5
  (by rw[show[]++[e1]++B2=(([]:List Ext)++(e1::B2)) by simp];exact ak)
 simp only[AQ] at hR
 refine Ct.go Tryz.func154 Tryz.ntmps154 fun w0=> ?_
 repeat(first|(refine st ?_;intros)|refine G.draw (id:=7) [(17,.quiet)] (h:= ?_)|refine G.draw [] (h:= ?_)|refine cq hI ?_|refine cq aa ?_|refine cq hE0 ?_|refine cq ag ?_)
 refine R.call (hct:=hR _) (h:= ?_)
 rintro _ _ ⟨p2,ac,c2,rfl,ad,rfl⟩
 try dsimp only[AA,AB]
 repeat(first|(refine st ?_;intros)|refine G.draw (id:=7) [(17,.quiet)] (h:= ?_)|refine G.draw [] (h:= ?_)|refine cq hI ?_|refine cq aa ?_|refine cq hE0 ?_|refine cq ag ?_)
 (refine Dn.post (Hr:=[[(bs,row [.int .i64 0,.int .i64 (n:Int),.slice p2 (0+1+(B2:List Ext).length) ac] 144)],c2]) Tryz.results154 (hR:= ?_);refine⟨rfl,p2,ac,c2,?_,?_⟩)
 ·first|rfl|(rw[show(B2:List Ext).length=B2.length by simp])
 ·first|exact ad|(simpa using ad)|(rw[show 0+1+B2.length=0+1+(B2:List Ext).length by simp];exact ad)
theorem bPt (A2:List Ext) (e0:Ext) (ha:e0.1+e0.2<first) (ab:fok n ((A2++[e0])++([]:List Ext))) (hA:∀e∈((A2++[e0]):List Ext),e.1+e.2≤first) (hB:∀e∈(([]:List Ext):List Ext),first<e.1+e.2) (hV:Vec 141 2 p ((A2++[e0])++([]:List Ext)).length cap (aAe ((A2++[e0])++([]:List Ext))) vc):
  Ct AC 154 [.pointer (some ⟨bs,0,none⟩),.int .i64 (first:Int),.int .i64 (m:Int)] [[(bs,row (aAp n p ((A2++[e0])++([]:List Ext)).length cap) 144)],vc] fun v H'=>
   v= .int .i64 0∧∃p' cap' vc',H'=[[(bs,row (aAp n p' ((A2++[e0])++[(first,m)]++[]).length cap') 144)],vc']∧Vec 141 2 p' ((A2++[e0])++[(first,m)]++[]).length cap' (aAe ((A2++[e0])++[(first,m)]++[])) vc':=by
 have hI:CtQ AC 202 [.pointer (some ⟨bs,0,none⟩),.int .i64 (first:Int),.int .i64 (m:Int)] [[(bs,row (aAp n p ((A2++[e0])++([]:List Ext)).length cap) 144)],vc] (.bool true):=CtQ.conv (aDz bs ⟨n,((A2++[e0])++([]:List Ext))⟩ _ ⟨p,cap,vc,rfl,hV,ab,hn⟩ first m hm hfm) oA15
 have aa:=aEa bs n cap first p vc (A2++[e0]) ([]:List Ext) ab hn hV hA hB
 have ae:=aDx ab (k:=0) oM oM
 have hl:((A2++[e0])++([]:List Ext)).length=(A2.length+1)+0:=by simp<;>omega
 have ai:((A2++[e0]):List Ext).length=(A2.length+1):=by simp
 have aj:((A2++[e0])++[(first,m)]++[]).length=(A2.length+1)+1+0:=by simp<;>omega
 have ak:=ab.1
 have ag:=aEv first m oM
 have am:=ak e0 oA15
 have ah:=aEv e0.1 e0.2 oM
 rw[hl] at hI aa ae⊢
 rw[ai] at aa
 rw[hl] at hV
 rw[aj]
 unfold aAp at hI aa⊢
 have al:=hV
 obtain⟨_,h0|⟨vb,rest,rfl,rfl,an,ao,ap⟩⟩:=hV
 ·omega
 obtain⟨g1,g2,g3⟩:=aVd (A:=A2) (rest:=rest) (B:=([]:List Ext)) (e:=e0) (rfl:A2.length=A2.length)
 rw[show A2++e0::([]:List Ext)=((A2++[e0])++([]:List Ext)) by simp] at g1 g2 g3
 have ei:(((A2.length+1:Nat):Int)-1).toNat=A2.length:=oM
 generalize aq:aAe ((A2++[e0])++([]:List Ext))++rest=cells at*
 have hR:=fun bv=>aEb (some ⟨vb,0,none⟩) cap (A2++[e0]) [] [] (first,m) [(vb,row cells 141)] (A2.length+1) ((A2.length+1)+0) (((A2.length+1):Nat):Int) (((A2.length+1):Nat):Int) (first:Int) (m:Int) oA15 oM oA7 oA15 oA7 oM bv 1 [] oA10 oA5
  (by rw[show(A2++[e0])++[]++[]=((A2++[e0])++([]:List Ext)) by simp];exact al)
 simp only[AQ] at hR
 refine Ct.go Tryz.func154 Tryz.ntmps154 fun w0=> ?_
 repeat(first|(refine st ?_;intros)|refine G.draw (id:=7) [(17,.quiet)] (h:= ?_)|refine G.draw [] (h:= ?_)|refine cq hI ?_|refine cq aa ?_|refine cq ah ?_|refine cq ag ?_)
 refine R.call (hct:=hR _) (h:= ?_)
 rintro _ _ ⟨p2,ac,c2,rfl,ad,rfl⟩
 try dsimp only[AA,AB]
 repeat(first|(refine st ?_;intros)|refine G.draw (id:=7) [(17,.quiet)] (h:= ?_)|refine G.draw [] (h:= ?_)|refine cq hI ?_|refine cq aa ?_|refine cq ah ?_|refine cq ag ?_)
 (refine Dn.post (Hr:=[[(bs,row [.int .i64 0,.int .i64 (n:Int),.slice p2 ((A2.length+1)+1+([]:List Ext).length) ac] 144)],c2]) Tryz.results154 (hR:= ?_);refine⟨rfl,p2,ac,c2,?_,?_⟩)
 ·first|rfl|(rw[show([]:List Ext).length=0 by simp])
 ·first|exact ad|(simpa using ad)|(rw[show(A2.length+1)+1+0=(A2.length+1)+1+([]:List Ext).length by simp];exact ad)
theorem bPu (A2:List Ext) (e0:Ext) (B2:List Ext) (e1:Ext) (ha:e0.1+e0.2<first) (hb:first+m<e1.1) (ab:fok n ((A2++[e0])++(e1::B2))) (hA:∀e∈((A2++[e0]):List Ext),e.1+e.2≤first) (hB:∀e∈((e1::B2):List Ext),first<e.1+e.2) (hV:Vec 141 2 p ((A2++[e0])++(e1::B2)).length cap (aAe ((A2++[e0])++(e1::B2))) vc):
  Ct AC 154 [.pointer (some ⟨bs,0,none⟩),.int .i64 (first:Int),.int .i64 (m:Int)] [[(bs,row (aAp n p ((A2++[e0])++(e1::B2)).length cap) 144)],vc] fun v H'=>
   v= .int .i64 0∧∃p' cap' vc',H'=[[(bs,row (aAp n p' ((A2++[e0])++[(first,m)]++(e1::B2)).length cap') 144)],vc']∧Vec 141 2 p' ((A2++[e0])++[(first,m)]++(e1::B2)).length cap' (aAe ((A2++[e0])++[(first,m)]++(e1::B2))) vc':=by
 have hI:CtQ AC 202 [.pointer (some ⟨bs,0,none⟩),.int .i64 (first:Int),.int .i64 (m:Int)] [[(bs,row (aAp n p ((A2++[e0])++(e1::B2)).length cap) 144)],vc] (.bool true):=CtQ.conv (aDz bs ⟨n,((A2++[e0])++(e1::B2))⟩ _ ⟨p,cap,vc,rfl,hV,ab,hn⟩ first m hm hfm) oA15
 have aa:=aEa bs n cap first p vc (A2++[e0]) (e1::B2) ab hn hV hA hB
 have ae:=aDx ab (k:=0) oM oM
 have hl:((A2++[e0])++(e1::B2)).length=(A2.length+1)+(B2.length+1):=by simp<;>omega
 have aj:((A2++[e0]):List Ext).length=(A2.length+1):=by simp
 have ak:((A2++[e0])++[(first,m)]++(e1::B2)).length=(A2.length+1)+1+(B2.length+1):=by simp<;>omega
 have ag:=ab.1
 have ah:=aEv first m oM
 have am:=ag e0 oA15
 have ai:=aEv e0.1 e0.2 oM
 have an:=ag e1 oA15
 rw[hl] at hI aa ae⊢
 rw[aj] at aa
 rw[hl] at hV
 rw[ak]
 unfold aAp at hI aa⊢
 have al:=hV
 obtain⟨_,h0|⟨vb,rest,rfl,rfl,ao,ap,aq⟩⟩:=hV
 ·omega
 obtain⟨g1,g2,g3⟩:=aVd (A:=A2) (rest:=rest) (B:=(e1::B2)) (e:=e0) (rfl:A2.length=A2.length)
 rw[show A2++e0::(e1::B2)=((A2++[e0])++(e1::B2)) by simp] at g1 g2 g3
 have ei:(((A2.length+1:Nat):Int)-1).toNat=A2.length:=oM
 obtain⟨k1,k2,k3⟩:=aVd (A:=(A2++[e0])) (rest:=rest) (B:=B2) (e:=e1) (i:=(A2.length+1)) oA15
 generalize au:aAe ((A2++[e0])++(e1::B2))++rest=cells at*
 have hR:=fun bv=>aEb (some ⟨vb,0,none⟩) cap (A2++[e0]) (e1::B2) [] (first,m) [(vb,row cells 141)] (A2.length+1) ((A2.length+1)+(B2.length+1)) (((A2.length+1):Nat):Int) (((A2.length+1):Nat):Int) (first:Int) (m:Int) oA15 oM oA7 oA15 oA7 oM bv 1 [] oA10 oA5
  (by rw[show(A2++[e0])++[]++(e1::B2)=((A2++[e0])++(e1::B2)) by simp];exact al)
 simp only[AQ] at hR
 refine Ct.go Tryz.func154 Tryz.ntmps154 fun w0=> ?_
 repeat(first|(refine st ?_;intros)|refine G.draw (id:=7) [(17,.quiet)] (h:= ?_)|refine G.draw [] (h:= ?_)|refine cq hI ?_|refine cq aa ?_|refine cq ai ?_|refine cq ah ?_)
 refine R.call (hct:=hR _) (h:= ?_)
 rintro _ _ ⟨p2,ac,c2,rfl,ad,rfl⟩
 try dsimp only[AA,AB]
 repeat(first|(refine st ?_;intros)|refine G.draw (id:=7) [(17,.quiet)] (h:= ?_)|refine G.draw [] (h:= ?_)|refine cq hI ?_|refine cq aa ?_|refine cq ai ?_|refine cq ah ?_)
 (refine Dn.post (Hr:=[[(bs,row [.int .i64 0,.int .i64 (n:Int),.slice p2 ((A2.length+1)+1+((e1::B2):List Ext).length) ac] 144)],c2]) Tryz.results154 (hR:= ?_);refine⟨rfl,p2,ac,c2,?_,?_⟩)
 ·first|rfl|(rw[show((e1::B2):List Ext).length=(B2.length+1) by simp])
 ·first|exact ad|(simpa using ad)|(rw[show(A2.length+1)+1+(B2.length+1)=(A2.length+1)+1+((e1::B2):List Ext).length by simp];exact ad)
theorem bPv (A2:List Ext) (e0:Ext) (B2:List Ext) (e1:Ext) (ha:e0.1+e0.2<first) (hb:e1.1=first+m) (ab:fok n ((A2++[e0])++(e1::B2))) (hA:∀e∈((A2++[e0]):List Ext),e.1+e.2≤first) (hB:∀e∈((e1::B2):List Ext),first<e.1+e.2) (hV:Vec 141 2 p ((A2++[e0])++(e1::B2)).length cap (aAe ((A2++[e0])++(e1::B2))) vc):
  Ct AC 154 [.pointer (some ⟨bs,0,none⟩),.int .i64 (first:Int),.int .i64 (m:Int)] [[(bs,row (aAp n p ((A2++[e0])++(e1::B2)).length cap) 144)],vc] fun v H'=>
   v= .int .i64 0∧∃p' cap' vc',H'=[[(bs,row (aAp n p' ((A2++[e0])++[(first,m+e1.2)]++B2).length cap') 144)],vc']∧Vec 141 2 p' ((A2++[e0])++[(first,m+e1.2)]++B2).length cap' (aAe ((A2++[e0])++[(first,m+e1.2)]++B2)) vc':=by
 have hI:CtQ AC 202 [.pointer (some ⟨bs,0,none⟩),.int .i64 (first:Int),.int .i64 (m:Int)] [[(bs,row (aAp n p ((A2++[e0])++(e1::B2)).length cap) 144)],vc] (.bool true):=CtQ.conv (aDz bs ⟨n,((A2++[e0])++(e1::B2))⟩ _ ⟨p,cap,vc,rfl,hV,ab,hn⟩ first m hm hfm) oA15
 have aa:=aEa bs n cap first p vc (A2++[e0]) (e1::B2) ab hn hV hA hB
 have ae:=aDx ab (k:=0) oM oM
 have hl:((A2++[e0])++(e1::B2)).length=(A2.length+1)+(B2.length+1):=by simp<;>omega
 have aj:((A2++[e0]):List Ext).length=(A2.length+1):=by simp
 have ak:((A2++[e0])++[(first,m+e1.2)]++B2).length=(A2.length+1)+1+B2.length:=by simp<;>omega
 have ag:=ab.1
 have ah:=aEv first m oM
 have am:=ag e0 oA15
 have ai:=aEv e0.1 e0.2 oM
 have an:=ag e1 oA15
 rw[hl] at hI aa ae⊢
 rw[aj] at aa
 rw[hl] at hV
 rw[ak]
 unfold aAp at hI aa⊢
 have al:=hV
 obtain⟨_,h0|⟨vb,rest,rfl,rfl,ao,ap,aq⟩⟩:=hV
 ·omega
 obtain⟨g1,g2,g3⟩:=aVd (A:=A2) (rest:=rest) (B:=(e1::B2)) (e:=e0) (rfl:A2.length=A2.length)
 rw[show A2++e0::(e1::B2)=((A2++[e0])++(e1::B2)) by simp] at g1 g2 g3
 have ei:(((A2.length+1:Nat):Int)-1).toNat=A2.length:=oM
 obtain⟨k1,k2,k3⟩:=aVd (A:=(A2++[e0])) (rest:=rest) (B:=B2) (e:=e1) (i:=(A2.length+1)) oA15
 generalize au:aAe ((A2++[e0])++(e1::B2))++rest=cells at*
 have hR:=fun bv=>aEb (some ⟨vb,0,none⟩) cap (A2++[e0]) B2 [e1] (first,m+e1.2) [(vb,row cells 141)] (A2.length+1) ((A2.length+1)+(B2.length+1)) (((A2.length+1):Nat):Int) ((((A2.length+1):Nat):Int)+1) (first:Int) ((m:Int)+(e1.2:Int)) oA15 oM oA7 oA15 oA7 oM bv 1 [] oA10 oA5
  (by rw[show(A2++[e0])++[e1]++B2=((A2++[e0])++(e1::B2)) by simp];exact al)
 simp only[AQ] at hR
 refine Ct.go Tryz.func154 Tryz.ntmps154 fun w0=> ?_
 repeat(first|(refine st ?_;intros)|refine G.draw (id:=7) [(17,.quiet)] (h:= ?_)|refine G.draw [] (h:= ?_)|refine cq hI ?_|refine cq aa ?_|refine cq ai ?_|refine cq ah ?_)
 refine R.call (hct:=hR _) (h:= ?_)
 rintro _ _ ⟨p2,ac,c2,rfl,ad,rfl⟩
 try dsimp only[AA,AB]
 repeat(first|(refine st ?_;intros)|refine G.draw (id:=7) [(17,.quiet)] (h:= ?_)|refine G.draw [] (h:= ?_)|refine cq hI ?_|refine cq aa ?_|refine cq ai ?_|refine cq ah ?_)
 (refine Dn.post (Hr:=[[(bs,row [.int .i64 0,.int .i64 (n:Int),.slice p2 ((A2.length+1)+1+(B2:List Ext).length) ac] 144)],c2]) Tryz.results154 (hR:= ?_);refine⟨rfl,p2,ac,c2,?_,?_⟩)
 ·first|rfl|(rw[show(B2:List Ext).length=B2.length by simp])
 ·first|exact ad|(simpa using ad)|(rw[show(A2.length+1)+1+B2.length=(A2.length+1)+1+(B2:List Ext).length by simp];exact ad)
theorem bPw (A2:List Ext) (e0:Ext) (ha:e0.1+e0.2=first) (ab:fok n ((A2++[e0])++([]:List Ext))) (hA:∀e∈((A2++[e0]):List Ext),e.1+e.2≤first) (hB:∀e∈(([]:List Ext):List Ext),first<e.1+e.2) (hV:Vec 141 2 p ((A2++[e0])++([]:List Ext)).length cap (aAe ((A2++[e0])++([]:List Ext))) vc):
  Ct AC 154 [.pointer (some ⟨bs,0,none⟩),.int .i64 (first:Int),.int .i64 (m:Int)] [[(bs,row (aAp n p ((A2++[e0])++([]:List Ext)).length cap) 144)],vc] fun v H'=>
   v= .int .i64 0∧∃p' cap' vc',H'=[[(bs,row (aAp n p' (A2++[(e0.1,m+e0.2)]++[]).length cap') 144)],vc']∧Vec 141 2 p' (A2++[(e0.1,m+e0.2)]++[]).length cap' (aAe (A2++[(e0.1,m+e0.2)]++[])) vc':=by
 have hI:CtQ AC 202 [.pointer (some ⟨bs,0,none⟩),.int .i64 (first:Int),.int .i64 (m:Int)] [[(bs,row (aAp n p ((A2++[e0])++([]:List Ext)).length cap) 144)],vc] (.bool true):=CtQ.conv (aDz bs ⟨n,((A2++[e0])++([]:List Ext))⟩ _ ⟨p,cap,vc,rfl,hV,ab,hn⟩ first m hm hfm) oA15
 have aa:=aEa bs n cap first p vc (A2++[e0]) ([]:List Ext) ab hn hV hA hB
 have ae:=aDx ab (k:=0) oM oM
 have hl:((A2++[e0])++([]:List Ext)).length=(A2.length+1)+0:=by simp<;>omega
 have ai:((A2++[e0]):List Ext).length=(A2.length+1):=by simp
 have aj:(A2++[(e0.1,m+e0.2)]++[]).length=A2.length+1+0:=by simp<;>omega
 have ak:=ab.1
 have ag:=aEv first m oM
 have am:=ak e0 oA15
 have ah:=aEv e0.1 e0.2 oM
 rw[hl] at hI aa ae⊢
 rw[ai] at aa
 rw[hl] at hV
 rw[aj]
 unfold aAp at hI aa⊢
 have al:=hV
 obtain⟨_,h0|⟨vb,rest,rfl,rfl,an,ao,ap⟩⟩:=hV
 ·omega
 obtain⟨g1,g2,g3⟩:=aVd (A:=A2) (rest:=rest) (B:=([]:List Ext)) (e:=e0) (rfl:A2.length=A2.length)
 rw[show A2++e0::([]:List Ext)=((A2++[e0])++([]:List Ext)) by simp] at g1 g2 g3
 have ei:(((A2.length+1:Nat):Int)-1).toNat=A2.length:=oM
 generalize aq:aAe ((A2++[e0])++([]:List Ext))++rest=cells at*
 have hR:=fun bv=>aEb (some ⟨vb,0,none⟩) cap A2 [] [e0] (e0.1,m+e0.2) [(vb,row cells 141)] A2.length ((A2.length+1)+0) ((((A2.length+1):Nat):Int)-1) (((A2.length+1):Nat):Int) (e0.1:Int) ((m:Int)+(e0.2:Int)) oA15 oM oA7 oA15 oA7 oM bv 1 [] oA10 oA5
  (by rw[show A2++[e0]++[]=((A2++[e0])++([]:List Ext)) by simp];exact al)
 simp only[AQ] at hR
 refine Ct.go Tryz.func154 Tryz.ntmps154 fun w0=> ?_
 repeat(first|(refine st ?_;intros)|refine G.draw (id:=7) [(17,.quiet)] (h:= ?_)|refine G.draw [] (h:= ?_)|refine cq hI ?_|refine cq aa ?_|refine cq ah ?_|refine cq ag ?_)
 refine R.call (hct:=hR _) (h:= ?_)
 rintro _ _ ⟨p2,ac,c2,rfl,ad,rfl⟩
 try dsimp only[AA,AB]
 repeat(first|(refine st ?_;intros)|refine G.draw (id:=7) [(17,.quiet)] (h:= ?_)|refine G.draw [] (h:= ?_)|refine cq hI ?_|refine cq aa ?_|refine cq ah ?_|refine cq ag ?_)
 (refine Dn.post (Hr:=[[(bs,row [.int .i64 0,.int .i64 (n:Int),.slice p2 (A2.length+1+([]:List Ext).length) ac] 144)],c2]) Tryz.results154 (hR:= ?_);refine⟨rfl,p2,ac,c2,?_,?_⟩)
 ·first|rfl|(rw[show([]:List Ext).length=0 by simp])
 ·first|exact ad|(simpa using ad)|(rw[show A2.length+1+0=A2.length+1+([]:List Ext).length by simp];exact ad)
theorem bPx (A2:List Ext) (e0:Ext) (B2:List Ext) (e1:Ext) (ha:e0.1+e0.2=first) (hb:first+m<e1.1) (ab:fok n ((A2++[e0])++(e1::B2))) (hA:∀e∈((A2++[e0]):List Ext),e.1+e.2≤first) (hB:∀e∈((e1::B2):List Ext),first<e.1+e.2) (hV:Vec 141 2 p ((A2++[e0])++(e1::B2)).length cap (aAe ((A2++[e0])++(e1::B2))) vc):
  Ct AC 154 [.pointer (some ⟨bs,0,none⟩),.int .i64 (first:Int),.int .i64 (m:Int)] [[(bs,row (aAp n p ((A2++[e0])++(e1::B2)).length cap) 144)],vc] fun v H'=>
   v= .int .i64 0∧∃p' cap' vc',H'=[[(bs,row (aAp n p' (A2++[(e0.1,m+e0.2)]++(e1::B2)).length cap') 144)],vc']∧Vec 141 2 p' (A2++[(e0.1,m+e0.2)]++(e1::B2)).length cap' (aAe (A2++[(e0.1,m+e0.2)]++(e1::B2))) vc':=by
 have hI:CtQ AC 202 [.pointer (some ⟨bs,0,none⟩),.int .i64 (first:Int),.int .i64 (m:Int)] [[(bs,row (aAp n p ((A2++[e0])++(e1::B2)).length cap) 144)],vc] (.bool true):=CtQ.conv (aDz bs ⟨n,((A2++[e0])++(e1::B2))⟩ _ ⟨p,cap,vc,rfl,hV,ab,hn⟩ first m hm hfm) oA15
 have aa:=aEa bs n cap first p vc (A2++[e0]) (e1::B2) ab hn hV hA hB
 have ae:=aDx ab (k:=0) oM oM
 have hl:((A2++[e0])++(e1::B2)).length=(A2.length+1)+(B2.length+1):=by simp<;>omega
 have aj:((A2++[e0]):List Ext).length=(A2.length+1):=by simp
 have ak:(A2++[(e0.1,m+e0.2)]++(e1::B2)).length=A2.length+1+(B2.length+1):=by simp<;>omega
 have ag:=ab.1
 have ah:=aEv first m oM
 have am:=ag e0 oA15
 have ai:=aEv e0.1 e0.2 oM
 have an:=ag e1 oA15
 rw[hl] at hI aa ae⊢
 rw[aj] at aa
 rw[hl] at hV
 rw[ak]
 unfold aAp at hI aa⊢
 have al:=hV
 obtain⟨_,h0|⟨vb,rest,rfl,rfl,ao,ap,aq⟩⟩:=hV
 ·omega
 obtain⟨g1,g2,g3⟩:=aVd (A:=A2) (rest:=rest) (B:=(e1::B2)) (e:=e0) (rfl:A2.length=A2.length)
 rw[show A2++e0::(e1::B2)=((A2++[e0])++(e1::B2)) by simp] at g1 g2 g3
 have ei:(((A2.length+1:Nat):Int)-1).toNat=A2.length:=oM
 obtain⟨k1,k2,k3⟩:=aVd (A:=(A2++[e0])) (rest:=rest) (B:=B2) (e:=e1) (i:=(A2.length+1)) oA15
 generalize au:aAe ((A2++[e0])++(e1::B2))++rest=cells at*
 have hR:=fun bv=>aEb (some ⟨vb,0,none⟩) cap A2 (e1::B2) [e0] (e0.1,m+e0.2) [(vb,row cells 141)] A2.length ((A2.length+1)+(B2.length+1)) ((((A2.length+1):Nat):Int)-1) (((A2.length+1):Nat):Int) (e0.1:Int) ((m:Int)+(e0.2:Int)) oA15 oM oA7 oA15 oA7 oM bv 1 [] oA10 oA5
  (by rw[show A2++[e0]++(e1::B2)=((A2++[e0])++(e1::B2)) by simp];exact al)
 simp only[AQ] at hR
 refine Ct.go Tryz.func154 Tryz.ntmps154 fun w0=> ?_
 repeat(first|(refine st ?_;intros)|refine G.draw (id:=7) [(17,.quiet)] (h:= ?_)|refine G.draw [] (h:= ?_)|refine cq hI ?_|refine cq aa ?_|refine cq ai ?_|refine cq ah ?_)
 refine R.call (hct:=hR _) (h:= ?_)
 rintro _ _ ⟨p2,ac,c2,rfl,ad,rfl⟩
 try dsimp only[AA,AB]
 repeat(first|(refine st ?_;intros)|refine G.draw (id:=7) [(17,.quiet)] (h:= ?_)|refine G.draw [] (h:= ?_)|refine cq hI ?_|refine cq aa ?_|refine cq ai ?_|refine cq ah ?_)
 (refine Dn.post (Hr:=[[(bs,row [.int .i64 0,.int .i64 (n:Int),.slice p2 (A2.length+1+((e1::B2):List Ext).length) ac] 144)],c2]) Tryz.results154 (hR:= ?_);refine⟨rfl,p2,ac,c2,?_,?_⟩)
 ·first|rfl|(rw[show((e1::B2):List Ext).length=(B2.length+1) by simp])
 ·first|exact ad|(simpa using ad)|(rw[show A2.length+1+(B2.length+1)=A2.length+1+((e1::B2):List Ext).length by simp];exact ad)
theorem bPy (A2:List Ext) (e0:Ext) (B2:List Ext) (e1:Ext) (ha:e0.1+e0.2=first) (hb:e1.1=first+m) (ab:fok n ((A2++[e0])++(e1::B2))) (hA:∀e∈((A2++[e0]):List Ext),e.1+e.2≤first) (hB:∀e∈((e1::B2):List Ext),first<e.1+e.2) (hV:Vec 141 2 p ((A2++[e0])++(e1::B2)).length cap (aAe ((A2++[e0])++(e1::B2))) vc):
  Ct AC 154 [.pointer (some ⟨bs,0,none⟩),.int .i64 (first:Int),.int .i64 (m:Int)] [[(bs,row (aAp n p ((A2++[e0])++(e1::B2)).length cap) 144)],vc] fun v H'=>
   v= .int .i64 0∧∃p' cap' vc',H'=[[(bs,row (aAp n p' (A2++[(e0.1,m+e1.2+e0.2)]++B2).length cap') 144)],vc']∧Vec 141 2 p' (A2++[(e0.1,m+e1.2+e0.2)]++B2).length cap' (aAe (A2++[(e0.1,m+e1.2+e0.2)]++B2)) vc':=by
 have hI:CtQ AC 202 [.pointer (some ⟨bs,0,none⟩),.int .i64 (first:Int),.int .i64 (m:Int)] [[(bs,row (aAp n p ((A2++[e0])++(e1::B2)).length cap) 144)],vc] (.bool true):=CtQ.conv (aDz bs ⟨n,((A2++[e0])++(e1::B2))⟩ _ ⟨p,cap,vc,rfl,hV,ab,hn⟩ first m hm hfm) oA15
 have aa:=aEa bs n cap first p vc (A2++[e0]) (e1::B2) ab hn hV hA hB
 have ae:=aDx ab (k:=0) oM oM
 have hl:((A2++[e0])++(e1::B2)).length=(A2.length+1)+(B2.length+1):=by simp<;>omega
 have aj:((A2++[e0]):List Ext).length=(A2.length+1):=by simp
 have ak:(A2++[(e0.1,m+e1.2+e0.2)]++B2).length=A2.length+1+B2.length:=by simp<;>omega
 have ag:=ab.1
 have ah:=aEv first m oM
 have am:=ag e0 oA15
 have ai:=aEv e0.1 e0.2 oM
 have an:=ag e1 oA15
 rw[hl] at hI aa ae⊢
 rw[aj] at aa
 rw[hl] at hV
 rw[ak]
 unfold aAp at hI aa⊢
 have al:=hV
 obtain⟨_,h0|⟨vb,rest,rfl,rfl,ao,ap,aq⟩⟩:=hV
 ·omega
 obtain⟨g1,g2,g3⟩:=aVd (A:=A2) (rest:=rest) (B:=(e1::B2)) (e:=e0) (rfl:A2.length=A2.length)
 rw[show A2++e0::(e1::B2)=((A2++[e0])++(e1::B2)) by simp] at g1 g2 g3
 have ei:(((A2.length+1:Nat):Int)-1).toNat=A2.length:=oM
 obtain⟨k1,k2,k3⟩:=aVd (A:=(A2++[e0])) (rest:=rest) (B:=B2) (e:=e1) (i:=(A2.length+1)) oA15
 generalize au:aAe ((A2++[e0])++(e1::B2))++rest=cells at*
 have hR:=fun bv=>aEb (some ⟨vb,0,none⟩) cap A2 B2 [e0,e1] (e0.1,m+e1.2+e0.2) [(vb,row cells 141)] A2.length ((A2.length+1)+(B2.length+1)) ((((A2.length+1):Nat):Int)-1) ((((A2.length+1):Nat):Int)+1) (e0.1:Int) (((m:Int)+(e1.2:Int))+(e0.2:Int)) oA15 oM oA7 oA15 oA7 oM bv 1 [] oA10 oA5
  (by rw[show A2++[e0,e1]++B2=((A2++[e0])++(e1::B2)) by simp];exact al)
 simp only[AQ] at hR
 refine Ct.go Tryz.func154 Tryz.ntmps154 fun w0=> ?_
 repeat(first|(refine st ?_;intros)|refine G.draw (id:=7) [(17,.quiet)] (h:= ?_)|refine G.draw [] (h:= ?_)|refine cq hI ?_|refine cq aa ?_|refine cq ai ?_|refine cq ah ?_)
 refine R.call (hct:=hR _) (h:= ?_)
 rintro _ _ ⟨p2,ac,c2,rfl,ad,rfl⟩
 try dsimp only[AA,AB]
 repeat(first|(refine st ?_;intros)|refine G.draw (id:=7) [(17,.quiet)] (h:= ?_)|refine G.draw [] (h:= ?_)|refine cq hI ?_|refine cq aa ?_|refine cq ai ?_|refine cq ah ?_)
 (refine Dn.post (Hr:=[[(bs,row [.int .i64 0,.int .i64 (n:Int),.slice p2 (A2.length+1+(B2:List Ext).length) ac] 144)],c2]) Tryz.results154 (hR:= ?_);refine⟨rfl,p2,ac,c2,?_,?_⟩)
 ·first|rfl|(rw[show(B2:List Ext).length=B2.length by simp])
 ·first|exact ad|(simpa using ad)|(rw[show A2.length+1+B2.length=A2.length+1+(B2:List Ext).length by simp];exact ad)
end
end Go.Proofs.YtaofijjjheiknaaGreat
