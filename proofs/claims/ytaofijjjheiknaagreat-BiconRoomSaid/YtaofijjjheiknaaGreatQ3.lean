/-
  Parts of the proof, put together (3). No condition.
-/
import Derived.Test.YtaofijjjheiknaaGreatProg
import Derived.Test.YtaofijjjheiknaaGreatQ2
set_option linter.unusedVariables false
set_option linter.unusedSimpArgs false
set_option linter.unnecessarySimpa false
set_option maxHeartbeats 4000000
open Go.Proofs.Tryz renaming prog→AC,sizeOf3→B0,underlying187→DX,underlying116→EG,underlying180→EH
open List renaming cons_append→AA,nil_append→AB,mem_cons_self→AE,mem_cons_of_mem→AF,length_append→AH,length_cons→AJ,mem_cons→AM,length_nil→AO,append_nil→AQ,append_assoc→AT,mem_of_getElem?→AY,take_of_length_le→A6,length_take→BJ,getElem?_append_right→BL,getElem?_append_left→BR,take_append_drop→BV,length_drop→CL,drop_append_of_le_length→DB
open Nat renaming reduceAdd→AD,add_zero→B7,min_eq_left→ED,le_of_lt→EK
open Go.Proofs.Tryz
open Go.Value renaming int→Z9
open Go.IntKind renaming i64→Z8
namespace Go.Proofs.YtaofijjjheiknaaGreat
open Go.SL
set_option maxRecDepth 100000
instance:Cell1 AC 2:=⟨isAgg2,sizeOf2⟩
instance:IntT AC 2 .i64:=⟨underlying2⟩
instance:ZeroV AC 2 [Z9 Z8 0]:=⟨_,rfl,zeroValue2⟩
instance:ElemT AC 2 1 8 [Z9 Z8 0]:=⟨by kernel_rfl⟩
instance:Cell1 AC 3:=⟨isAgg3,B0⟩
instance:IntT AC 3 .i64:=⟨underlying3⟩
instance:ZeroV AC 3 [Z9 Z8 0]:=⟨_,rfl,zeroValue3⟩
instance:ElemT AC 3 1 8 [Z9 Z8 0]:=⟨by kernel_rfl⟩
instance:Cell1 AC 4:=⟨isAgg4,sizeOf4⟩
instance:ZeroV AC 4 [.bool false]:=⟨_,rfl,zeroValue4⟩
instance:ElemT AC 4 1 1 [.bool false]:=⟨by kernel_rfl⟩
instance:Cell1 AC 5:=⟨isAgg5,sizeOf5⟩
instance:IntT AC 5 .u8:=⟨underlying5⟩
instance:Cell1 AC 22:=⟨isAgg22,sizeOf22⟩
instance:SliceT AC 22 53 2:=⟨underlying22,sizeOf53⟩
instance:AggN AC 24 2:=⟨isAgg24,sizeOf24⟩
instance:FieldOff AC 24 0 0:=FieldOff.of (m:=0) _ _ underlying24 rfl rfl B0
instance:FieldOff AC 24 1 1:=FieldOff.of (m:=0) _ _ underlying24 rfl rfl sizeOf22
instance:BuildT AC 24 (fun i=>([(0,1),(1,1)]:List (Nat×Nat))[i]?) [Z9 Z8 0,.slice none 0 0]:=BuildT.ofS (fun parts=>by kernel_rfl)
instance:ZeroV AC 24 [Z9 Z8 0,.slice none 0 0]:=⟨_,rfl,zeroValue24⟩
instance:Cell1 AC 28:=⟨isAgg28,sizeOf28⟩
instance:SliceT AC 28 33 5:=⟨underlying28,sizeOf33⟩
instance:AggN AC 30 5:=⟨isAgg30,sizeOf30⟩
instance:FieldOff AC 30 0 0:=FieldOff.of (m:=0) _ _ underlying30 rfl rfl sizeOf28
instance:FieldOff AC 30 1 1:=FieldOff.of (m:=0) _ _ underlying30 rfl rfl sizeOf28
instance:FieldOff AC 30 2 2:=FieldOff.of (m:=0) _ _ underlying30 rfl rfl sizeOf28
instance:FieldOff AC 30 3 3:=FieldOff.of (m:=0) _ _ underlying30 rfl rfl sizeOf28
instance:FieldOff AC 30 4 4:=FieldOff.of (m:=0) _ _ underlying30 rfl rfl sizeOf28
instance:ZeroV AC 30 [.slice none 0 0,.slice none 0 0,.slice none 0 0,.slice none 0 0,.slice none 0 0]:=⟨_,rfl,zeroValue30⟩
instance:AggN AC 33 5:=⟨isAgg33,sizeOf33⟩
instance:ArrT AC 33 5 2 1:=⟨underlying33,sizeOf2⟩
instance:BuildT AC 33 (fun i=>some (i*1,1)) [Z9 Z8 0,Z9 Z8 0,Z9 Z8 0,Z9 Z8 0,Z9 Z8 0]:=⟨fun parts=>by kernel_rfl⟩
instance:Eq5 AC 33:=Eq5.of underlying33 underlying2 type2 isAgg2 (by kernel_rfl) eqGuardType33
instance:ZeroV AC 33 [Z9 Z8 0,Z9 Z8 0,Z9 Z8 0,Z9 Z8 0,Z9 Z8 0]:=⟨_,rfl,zeroValue33⟩
instance:ElemT AC 33 5 40 [Z9 Z8 0,Z9 Z8 0,Z9 Z8 0,Z9 Z8 0,Z9 Z8 0]:=⟨by kernel_rfl⟩
instance:Cell1 AC 34:=⟨isAgg34,sizeOf34⟩
instance:SliceT AC 34 42 4:=⟨underlying34,sizeOf42⟩
instance:Cell1 AC 35:=⟨isAgg35,sizeOf35⟩
instance:Cell1 AC 38:=⟨isAgg38,sizeOf38⟩
instance:PtrT AC 38:=⟨by kernel_rfl⟩
instance:ArrT AC 40 4 5 1:=⟨underlying40,sizeOf5⟩
instance:AggN AC 42 4:=⟨isAgg42,sizeOf42⟩
instance:FieldOff AC 42 0 0:=FieldOff.of (m:=0) _ _ underlying42 rfl rfl B0
instance:FieldOff AC 42 1 1:=FieldOff.of (m:=0) _ _ underlying42 rfl rfl B0
instance:FieldOff AC 42 2 2:=FieldOff.of (m:=0) _ _ underlying42 rfl rfl B0
instance:FieldOff AC 42 3 3:=FieldOff.of (m:=0) _ _ underlying42 rfl rfl B0
instance:BuildT AC 42 (fun i=>([(0,1),(1,1),(2,1),(3,1)]:List (Nat×Nat))[i]?) [Z9 Z8 0,Z9 Z8 0,Z9 Z8 0,Z9 Z8 0]:=BuildT.ofS (fun parts=>by kernel_rfl)
instance:Eq4 AC 42:=Eq4.of underlying42 oA18 ⟨rfl,rfl,rfl,rfl⟩ underlying3 isAgg3 eqGuardType42 stoodInHeld42
instance:ZeroV AC 42 [Z9 Z8 0,Z9 Z8 0,Z9 Z8 0,Z9 Z8 0]:=⟨_,rfl,zeroValue42⟩
instance:ElemT AC 42 4 32 [Z9 Z8 0,Z9 Z8 0,Z9 Z8 0,Z9 Z8 0]:=⟨by kernel_rfl⟩
instance:AggN AC 43 16:=⟨isAgg43,sizeOf43⟩
instance:ArrT AC 43 4 42 4:=⟨underlying43,sizeOf42⟩
instance:BuildT AC 43 (fun i=>some (i*4,4)) [Z9 Z8 0,Z9 Z8 0,Z9 Z8 0,Z9 Z8 0,Z9 Z8 0,Z9 Z8 0,Z9 Z8 0,Z9 Z8 0,Z9 Z8 0,Z9 Z8 0,Z9 Z8 0,Z9 Z8 0,Z9 Z8 0,Z9 Z8 0,Z9 Z8 0,Z9 Z8 0]:=⟨fun parts=>by kernel_rfl⟩
instance:ZeroV AC 43 [Z9 Z8 0,Z9 Z8 0,Z9 Z8 0,Z9 Z8 0,Z9 Z8 0,Z9 Z8 0,Z9 Z8 0,Z9 Z8 0,Z9 Z8 0,Z9 Z8 0,Z9 Z8 0,Z9 Z8 0,Z9 Z8 0,Z9 Z8 0,Z9 Z8 0,Z9 Z8 0]:=⟨_,rfl,zeroValue43⟩
instance:Cell1 AC 46:=⟨isAgg46,sizeOf46⟩
instance:PtrT AC 46:=⟨by kernel_rfl⟩
instance:AggN AC 53 2:=⟨isAgg53,sizeOf53⟩
instance:FieldOff AC 53 0 0:=FieldOff.of (m:=0) _ _ underlying53 rfl rfl B0
instance:FieldOff AC 53 1 1:=FieldOff.of (m:=0) _ _ underlying53 rfl rfl B0
instance:BuildT AC 53 (fun i=>([(0,1),(1,1)]:List (Nat×Nat))[i]?) [Z9 Z8 0,Z9 Z8 0]:=BuildT.ofS (fun parts=>by kernel_rfl)
instance:ZeroV AC 53 [Z9 Z8 0,Z9 Z8 0]:=⟨_,rfl,zeroValue53⟩
instance:ElemT AC 53 2 16 [Z9 Z8 0,Z9 Z8 0]:=⟨by kernel_rfl⟩
instance:IntT AC 63 .u16:=⟨underlying63⟩
instance:Cell1 AC 66:=⟨isAgg66,sizeOf66⟩
instance:PtrT AC 66:=⟨by kernel_rfl⟩
instance:Cell1 AC 82:=⟨isAgg82,sizeOf82⟩
instance:PtrT AC 82:=⟨by kernel_rfl⟩
instance:Cell1 AC 84:=⟨isAgg84,sizeOf84⟩
instance:ZeroV AC 84 [.pointer none]:=⟨_,rfl,zeroValue84⟩
instance:Cell1 AC 91:=⟨isAgg91,sizeOf91⟩
instance:FieldOff AC 98 0 0:=FieldOff.of (m:=0) _ _ underlying98 rfl rfl sizeOf38
instance:FieldOff AC 98 1 1:=FieldOff.of (m:=0) _ _ underlying98 rfl rfl sizeOf35
instance:FieldOff AC 98 2 2:=FieldOff.of (m:=0) _ _ underlying98 rfl rfl sizeOf34
instance:BuildT AC 98 (fun i=>([(0,1),(1,1),(2,1)]:List (Nat×Nat))[i]?) [.pointer none,Z9 Z8 0,.slice none 0 0]:=BuildT.ofS (fun parts=>by kernel_rfl)
instance:AggN AC 102 5:=⟨isAgg102,sizeOf102⟩
instance:ArrT AC 102 5 3 1:=⟨underlying102,B0⟩
instance:BuildT AC 102 (fun i=>some (i*1,1)) [Z9 Z8 0,Z9 Z8 0,Z9 Z8 0,Z9 Z8 0,Z9 Z8 0]:=⟨fun parts=>by kernel_rfl⟩
instance:ZeroV AC 102 [Z9 Z8 0,Z9 Z8 0,Z9 Z8 0,Z9 Z8 0,Z9 Z8 0]:=⟨_,rfl,zeroValue102⟩
instance:FieldOff AC 105 0 0:=FieldOff.of (m:=0) _ _ underlying105 rfl rfl sizeOf66
instance:FieldOff AC 105 1 1:=FieldOff.of (m:=0) _ _ underlying105 rfl rfl sizeOf46
instance:FieldOff AC 105 2 2:=FieldOff.of (m:=0) _ _ underlying105 rfl rfl sizeOf82
instance:BuildT AC 105 (fun i=>([(0,1),(1,1),(2,1)]:List (Nat×Nat))[i]?) [.pointer none,.pointer none,.pointer none]:=BuildT.ofS (fun parts=>by kernel_rfl)
instance:Cell1 AC 106:=⟨isAgg106,sizeOf106⟩
instance:MapT AC 106 163 3:=⟨underlying106⟩
instance:FieldOff AC 108 0 0:=FieldOff.of (m:=0) _ _ underlying108 rfl rfl B0
instance:FieldOff AC 108 1 1:=FieldOff.of (m:=0) _ _ underlying108 rfl rfl B0
instance:FieldOff AC 108 2 2:=FieldOff.of (m:=0) _ _ underlying108 rfl rfl B0
instance:FieldOff AC 108 3 3:=FieldOff.of (m:=0) _ _ underlying108 rfl rfl sizeOf106
instance:BuildT AC 108 (fun i=>([(0,1),(1,1),(2,1),(3,1)]:List (Nat×Nat))[i]?) [Z9 Z8 0,Z9 Z8 0,Z9 Z8 0,.map none]:=BuildT.ofS (fun parts=>by kernel_rfl)
instance:Cell1 AC 113:=⟨isAgg113,sizeOf113⟩
instance:MapT AC 113 3 175:=⟨underlying113⟩
instance:Cell1 AC 114:=⟨isAgg114,sizeOf114⟩
instance:SliceT AC 114 231 2:=⟨underlying114,sizeOf231⟩
instance:FieldOff AC 116 0 0:=FieldOff.of (m:=0) _ _ EG rfl rfl B0
instance:FieldOff AC 116 1 1:=FieldOff.of (m:=0) _ _ EG rfl rfl B0
instance:FieldOff AC 116 3 3:=FieldOff.of (m:=0) _ _ EG rfl rfl sizeOf113
instance:FieldOff AC 116 4 4:=FieldOff.of (m:=0) _ _ EG rfl rfl sizeOf114
instance:FieldOff AC 116 5 5:=FieldOff.of (m:=0) _ _ EG rfl rfl B0
instance:FieldOff AC 116 6 6:=FieldOff.of (m:=0) _ _ EG rfl rfl B0
instance:FieldOff AC 116 7 7:=FieldOff.of (m:=0) _ _ EG rfl rfl sizeOf4
instance:FieldOff AC 116 8 8:=FieldOff.of (m:=0) _ _ EG rfl rfl B0
instance:BuildT AC 116 (fun i=>([(0,1),(1,1),(2,1),(3,1),(4,1),(5,1),(6,1),(7,1),(8,1)]:List (Nat×Nat))[i]?) [Z9 Z8 0,Z9 Z8 0,.map none,.map none,.slice none 0 0,Z9 Z8 0,Z9 Z8 0,.bool false,Z9 Z8 0]:=BuildT.ofS (fun parts=>by kernel_rfl)
instance:SliceT AC 117 3 1:=⟨underlying117,B0⟩
instance:Cell1 AC 122:=⟨isAgg122,sizeOf122⟩
instance:PtrT AC 122:=⟨by kernel_rfl⟩
instance:ZeroV AC 122 [.pointer none]:=⟨_,rfl,zeroValue122⟩
instance:Cell1 AC 127:=⟨isAgg127,sizeOf127⟩
instance:PtrT AC 127:=⟨by kernel_rfl⟩
instance:SliceT AC 132 4 1:=⟨underlying132,sizeOf4⟩
instance:SliceT AC 135 2 1:=⟨underlying135,sizeOf2⟩
instance:AggN AC 141 2:=⟨isAgg141,sizeOf141⟩
instance:FieldOff AC 141 0 0:=FieldOff.of (m:=0) _ _ underlying141 rfl rfl B0
instance:FieldOff AC 141 1 1:=FieldOff.of (m:=0) _ _ underlying141 rfl rfl B0
instance:BuildT AC 141 (fun i=>([(0,1),(1,1)]:List (Nat×Nat))[i]?) [Z9 Z8 0,Z9 Z8 0]:=BuildT.ofS (fun parts=>by kernel_rfl)
instance:ZeroV AC 141 [Z9 Z8 0,Z9 Z8 0]:=⟨_,rfl,zeroValue141⟩
instance:ElemT AC 141 2 16 [Z9 Z8 0,Z9 Z8 0]:=⟨by kernel_rfl⟩
instance:Cell1 AC 142:=⟨isAgg142,sizeOf142⟩
instance:SliceT AC 142 141 2:=⟨underlying142,sizeOf141⟩
instance:FieldOff AC 144 0 0:=FieldOff.of (m:=1) _ _ underlying144 rfl rfl sizeOf141
instance:FieldOff AC 144 1 2:=FieldOff.of (m:=0) _ _ underlying144 rfl rfl sizeOf142
instance:BuildT AC 144 (fun i=>([(0,2),(2,1)]:List (Nat×Nat))[i]?) [Z9 Z8 0,Z9 Z8 0,.slice none 0 0]:=BuildT.ofS (fun parts=>by kernel_rfl)
instance:Cell1 AC 163:=⟨isAgg163,sizeOf163⟩
instance:PtrT AC 163:=⟨by kernel_rfl⟩
instance:PtrKey AC 163:=⟨177,1,underlying163,by decide,sizeOf177⟩
instance:FieldOff AC 168 0 0:=FieldOff.of (m:=0) _ _ underlying168 rfl rfl sizeOf38
instance:FieldOff AC 168 1 1:=FieldOff.of (m:=3) _ _ underlying168 rfl rfl sizeOf42
instance:FieldOff AC 168 2 5:=FieldOff.of (m:=0) _ _ underlying168 rfl rfl B0
instance:FieldOff AC 168 3 6:=FieldOff.of (m:=0) _ _ underlying168 rfl rfl sizeOf163
instance:FieldOff AC 168 4 7:=FieldOff.of (m:=0) _ _ underlying168 rfl rfl B0
instance:FieldOff AC 168 5 8:=FieldOff.of (m:=0) _ _ underlying168 rfl rfl B0
instance:FieldOff AC 168 6 9:=FieldOff.of (m:=0) _ _ underlying168 rfl rfl sizeOf4
instance:BuildT AC 168 (fun i=>([(0,1),(1,4),(5,1),(6,1),(7,1),(8,1),(9,1)]:List (Nat×Nat))[i]?) [.pointer none,Z9 Z8 0,Z9 Z8 0,Z9 Z8 0,Z9 Z8 0,Z9 Z8 0,.pointer none,Z9 Z8 0,Z9 Z8 0,.bool false]:=BuildT.ofS (fun parts=>by kernel_rfl)
instance:Cell1 AC 174:=⟨isAgg174,sizeOf174⟩
instance:IntT AC 174 .u64:=⟨underlying174⟩
instance:ElemT AC 174 1 8 [.int .u64 0]:=⟨by kernel_rfl⟩
instance:Cell1 AC 175:=⟨isAgg175,sizeOf175⟩
instance:SliceT AC 175 174 1:=⟨underlying175,sizeOf174⟩
instance:FieldOff AC 177 0 0:=FieldOff.of (m:=0) _ _ underlying177 rfl rfl sizeOf175
instance:BuildT AC 177 (fun i=>([(0,1)]:List (Nat×Nat))[i]?) [.slice none 0 0]:=BuildT.ofS (fun parts=>by kernel_rfl)
instance:FieldOff AC 180 0 0:=FieldOff.of (m:=0) _ _ EH rfl rfl sizeOf38
instance:FieldOff AC 180 1 1:=FieldOff.of (m:=3) _ _ EH rfl rfl sizeOf42
instance:FieldOff AC 180 2 5:=FieldOff.of (m:=0) _ _ EH rfl rfl sizeOf163
instance:FieldOff AC 180 3 6:=FieldOff.of (m:=0) _ _ EH rfl rfl B0
instance:FieldOff AC 180 4 7:=FieldOff.of (m:=0) _ _ EH rfl rfl B0
instance:FieldOff AC 180 5 8:=FieldOff.of (m:=0) _ _ EH rfl rfl B0
instance:FieldOff AC 180 6 9:=FieldOff.of (m:=0) _ _ EH rfl rfl B0
instance:FieldOff AC 180 7 10:=FieldOff.of (m:=0) _ _ EH rfl rfl sizeOf4
instance:BuildT AC 180 (fun i=>([(0,1),(1,4),(5,1),(6,1),(7,1),(8,1),(9,1),(10,1)]:List (Nat×Nat))[i]?) [.pointer none,Z9 Z8 0,Z9 Z8 0,Z9 Z8 0,Z9 Z8 0,.pointer none,Z9 Z8 0,Z9 Z8 0,Z9 Z8 0,Z9 Z8 0,.bool false]:=BuildT.ofS (fun parts=>by kernel_rfl)
instance:Cell1 AC 185:=⟨isAgg185,sizeOf185⟩
instance:FieldOff AC 187 0 0:=FieldOff.of (m:=0) _ _ DX rfl rfl sizeOf185
instance:FieldOff AC 187 1 1:=FieldOff.of (m:=4) _ _ DX rfl rfl sizeOf33
instance:FieldOff AC 187 2 6:=FieldOff.of (m:=0) _ _ DX rfl rfl sizeOf4
instance:FieldOff AC 187 3 7:=FieldOff.of (m:=0) _ _ DX rfl rfl sizeOf4
instance:FieldOff AC 187 4 8:=FieldOff.of (m:=0) _ _ DX rfl rfl B0
instance:FieldOff AC 187 5 9:=FieldOff.of (m:=0) _ _ DX rfl rfl B0
instance:FieldOff AC 187 6 10:=FieldOff.of (m:=0) _ _ DX rfl rfl B0
instance:FieldOff AC 187 7 11:=FieldOff.of (m:=0) _ _ DX rfl rfl sizeOf2
instance:FieldOff AC 187 8 12:=FieldOff.of (m:=0) _ _ DX rfl rfl sizeOf4
instance:BuildT AC 187 (fun i=>([(0,1),(1,5),(6,1),(7,1),(8,1),(9,1),(10,1),(11,1),(12,1)]:List (Nat×Nat))[i]?) [.nilFunc,Z9 Z8 0,Z9 Z8 0,Z9 Z8 0,Z9 Z8 0,Z9 Z8 0,.bool false,.bool false,Z9 Z8 0,Z9 Z8 0,Z9 Z8 0,Z9 Z8 0,.bool false]:=BuildT.ofS (fun parts=>by kernel_rfl)
instance:FieldOff AC 200 0 0:=FieldOff.of (m:=0) _ _ underlying200 rfl rfl sizeOf38
instance:FieldOff AC 200 1 1:=FieldOff.of (m:=4) _ _ underlying200 rfl rfl sizeOf102
instance:FieldOff AC 200 2 6:=FieldOff.of (m:=0) _ _ underlying200 rfl rfl sizeOf4
instance:FieldOff AC 200 3 7:=FieldOff.of (m:=0) _ _ underlying200 rfl rfl sizeOf34
instance:FieldOff AC 200 4 8:=FieldOff.of (m:=4) _ _ underlying200 rfl rfl sizeOf33
instance:FieldOff AC 200 5 13:=FieldOff.of (m:=0) _ _ underlying200 rfl rfl sizeOf4
instance:BuildT AC 200 (fun i=>([(0,1),(1,5),(6,1),(7,1),(8,5),(13,1)]:List (Nat×Nat))[i]?) [.pointer none,Z9 Z8 0,Z9 Z8 0,Z9 Z8 0,Z9 Z8 0,Z9 Z8 0,.bool false,.slice none 0 0,Z9 Z8 0,Z9 Z8 0,Z9 Z8 0,Z9 Z8 0,Z9 Z8 0,.bool false]:=BuildT.ofS (fun parts=>by kernel_rfl)
instance:IntT AC 214 .u64:=⟨underlying214⟩
instance:ArrT AC 215 6 4 1:=⟨underlying215,sizeOf4⟩
instance:ZeroV AC 215 [.bool false,.bool false,.bool false,.bool false,.bool false,.bool false]:=⟨_,rfl,zeroValue215⟩
instance:PtrT AC 216:=⟨by kernel_rfl⟩
instance:FieldOff AC 218 0 0:=FieldOff.of (m:=0) _ _ underlying218 rfl rfl sizeOf163
instance:FieldOff AC 218 1 1:=FieldOff.of (m:=0) _ _ underlying218 rfl rfl B0
instance:FieldOff AC 218 2 2:=FieldOff.of (m:=0) _ _ underlying218 rfl rfl B0
instance:FieldOff AC 218 3 3:=FieldOff.of (m:=4) _ _ underlying218 rfl rfl sizeOf102
instance:BuildT AC 218 (fun i=>([(0,1),(1,1),(2,1),(3,5)]:List (Nat×Nat))[i]?) [.pointer none,Z9 Z8 0,Z9 Z8 0,Z9 Z8 0,Z9 Z8 0,Z9 Z8 0,Z9 Z8 0,Z9 Z8 0]:=BuildT.ofS (fun parts=>by kernel_rfl)
instance:BuildT AC 231 (fun i=>([(0,1),(1,1)]:List (Nat×Nat))[i]?) [Z9 Z8 0,.slice none 0 0]:=BuildT.ofS (fun parts=>by kernel_rfl)
instance:ElemT AC 231 2 32 [Z9 Z8 0,.slice none 0 0]:=⟨by kernel_rfl⟩
instance:Cell1 AC 238:=⟨isAgg238,sizeOf238⟩
instance:PtrT AC 238:=⟨by kernel_rfl⟩
instance:ZeroV AC 238 [.pointer none]:=⟨_,rfl,zeroValue238⟩
instance:Cell1 AC 239:=⟨isAgg239,sizeOf239⟩
instance:SliceT AC 239 243 7:=⟨underlying239,sizeOf243⟩
instance:FieldOff AC 241 0 0:=FieldOff.of (m:=0) _ _ underlying241 rfl rfl sizeOf239
instance:FieldOff AC 241 1 1:=FieldOff.of (m:=4) _ _ underlying241 rfl rfl sizeOf102
instance:BuildT AC 241 (fun i=>([(0,1),(1,5)]:List (Nat×Nat))[i]?) [.slice none 0 0,Z9 Z8 0,Z9 Z8 0,Z9 Z8 0,Z9 Z8 0,Z9 Z8 0]:=BuildT.ofS (fun parts=>by kernel_rfl)
instance:AggN AC 243 7:=⟨isAgg243,sizeOf243⟩
instance:FieldOff AC 243 0 0:=FieldOff.of (m:=4) _ _ underlying243 rfl rfl sizeOf33
instance:FieldOff AC 243 1 5:=FieldOff.of (m:=0) _ _ underlying243 rfl rfl B0
instance:FieldOff AC 243 2 6:=FieldOff.of (m:=0) _ _ underlying243 rfl rfl sizeOf127
instance:BuildT AC 243 (fun i=>([(0,5),(5,1),(6,1)]:List (Nat×Nat))[i]?) [Z9 Z8 0,Z9 Z8 0,Z9 Z8 0,Z9 Z8 0,Z9 Z8 0,Z9 Z8 0,.pointer none]:=BuildT.ofS (fun parts=>by kernel_rfl)
instance:ZeroV AC 243 [Z9 Z8 0,Z9 Z8 0,Z9 Z8 0,Z9 Z8 0,Z9 Z8 0,Z9 Z8 0,.pointer none]:=⟨_,rfl,zeroValue243⟩
instance:ElemT AC 243 7 56 [Z9 Z8 0,Z9 Z8 0,Z9 Z8 0,Z9 Z8 0,Z9 Z8 0,Z9 Z8 0,.pointer none]:=⟨by kernel_rfl⟩
instance:IntT AC 248 .u32:=⟨underlying248⟩
instance:Callable AC 16:=⟨call16⟩
instance:Callable AC 17:=⟨call17⟩
instance:Callable AC 18:=⟨call18⟩
instance:Callable AC 22:=⟨call22⟩
instance:Callable AC 23:=⟨call23⟩
instance:Callable AC 24:=⟨call24⟩
instance:Callable AC 25:=⟨call25⟩
instance:Callable AC 26:=⟨call26⟩
instance:Callable AC 27:=⟨call27⟩
instance:Callable AC 28:=⟨call28⟩
instance:Callable AC 29:=⟨call29⟩
instance:Callable AC 34:=⟨call34⟩
instance:Callable AC 35:=⟨call35⟩
instance:Callable AC 37:=⟨call37⟩
instance:Callable AC 38:=⟨call38⟩
instance:Callable AC 39:=⟨call39⟩
instance:Callable AC 40:=⟨call40⟩
instance:Callable AC 41:=⟨call41⟩
instance:Callable AC 42:=⟨call42⟩
instance:Callable AC 43:=⟨call43⟩
instance:Callable AC 44:=⟨call44⟩
instance:Callable AC 45:=⟨call45⟩
instance:Callable AC 46:=⟨call46⟩
instance:Callable AC 47:=⟨call47⟩
instance:Callable AC 48:=⟨call48⟩
instance:Callable AC 49:=⟨call49⟩
instance:Callable AC 50:=⟨call50⟩
instance:Callable AC 52:=⟨call52⟩
instance:Callable AC 57:=⟨call57⟩
instance:Callable AC 58:=⟨call58⟩
instance:Callable AC 60:=⟨call60⟩
instance:Callable AC 64:=⟨call64⟩
instance:Callable AC 66:=⟨call66⟩
instance:Callable AC 69:=⟨call69⟩
instance:Callable AC 70:=⟨call70⟩
instance:Callable AC 71:=⟨call71⟩
instance:Callable AC 72:=⟨call72⟩
instance:Callable AC 73:=⟨call73⟩
instance:Callable AC 75:=⟨call75⟩
instance:Callable AC 76:=⟨call76⟩
instance:Callable AC 77:=⟨call77⟩
instance:Callable AC 78:=⟨call78⟩
instance:Callable AC 79:=⟨call79⟩
instance:Callable AC 80:=⟨call80⟩
instance:Callable AC 81:=⟨call81⟩
instance:Callable AC 82:=⟨call82⟩
instance:Callable AC 83:=⟨call83⟩
instance:Callable AC 84:=⟨call84⟩
instance:Callable AC 85:=⟨call85⟩
instance:Callable AC 86:=⟨call86⟩
instance:Callable AC 87:=⟨call87⟩
instance:Callable AC 88:=⟨call88⟩
instance:Callable AC 89:=⟨call89⟩
instance:Callable AC 90:=⟨call90⟩
instance:Callable AC 91:=⟨call91⟩
instance:Callable AC 92:=⟨call92⟩
instance:Callable AC 93:=⟨call93⟩
instance:Callable AC 94:=⟨call94⟩
instance:Callable AC 95:=⟨call95⟩
instance:Callable AC 96:=⟨call96⟩
instance:Callable AC 97:=⟨call97⟩
instance:Callable AC 98:=⟨call98⟩
instance:Callable AC 99:=⟨call99⟩
instance:Callable AC 100:=⟨call100⟩
instance:Callable AC 101:=⟨call101⟩
instance:Callable AC 102:=⟨call102⟩
instance:Callable AC 103:=⟨call103⟩
instance:Callable AC 104:=⟨call104⟩
instance:Callable AC 105:=⟨call105⟩
instance:Callable AC 106:=⟨call106⟩
instance:Callable AC 107:=⟨call107⟩
instance:Callable AC 109:=⟨call109⟩
instance:Callable AC 112:=⟨call112⟩
instance:Callable AC 114:=⟨call114⟩
instance:Callable AC 115:=⟨call115⟩
instance:Callable AC 116:=⟨call116⟩
instance:Callable AC 122:=⟨call122⟩
instance:Callable AC 123:=⟨call123⟩
instance:Callable AC 127:=⟨call127⟩
instance:Callable AC 128:=⟨call128⟩
instance:Callable AC 131:=⟨call131⟩
instance:Callable AC 132:=⟨call132⟩
instance:Callable AC 133:=⟨call133⟩
instance:Callable AC 134:=⟨call134⟩
instance:Callable AC 135:=⟨call135⟩
instance:Callable AC 136:=⟨call136⟩
instance:Callable AC 137:=⟨call137⟩
instance:Callable AC 138:=⟨call138⟩
instance:Callable AC 139:=⟨call139⟩
instance:Callable AC 140:=⟨call140⟩
instance:Callable AC 141:=⟨call141⟩
instance:Callable AC 142:=⟨call142⟩
instance:Callable AC 143:=⟨call143⟩
instance:Callable AC 144:=⟨call144⟩
instance:Callable AC 145:=⟨call145⟩
instance:Callable AC 146:=⟨call146⟩
instance:Callable AC 147:=⟨call147⟩
instance:Callable AC 148:=⟨call148⟩
instance:Callable AC 149:=⟨call149⟩
instance:Callable AC 150:=⟨call150⟩
instance:Callable AC 151:=⟨call151⟩
instance:Callable AC 152:=⟨call152⟩
instance:Callable AC 153:=⟨call153⟩
instance:Callable AC 154:=⟨call154⟩
instance:Callable AC 155:=⟨call155⟩
instance:Callable AC 156:=⟨call156⟩
instance:Callable AC 157:=⟨call157⟩
instance:Callable AC 158:=⟨call158⟩
instance:Callable AC 159:=⟨call159⟩
instance:Callable AC 160:=⟨call160⟩
instance:Callable AC 161:=⟨call161⟩
instance:Callable AC 162:=⟨call162⟩
instance:Callable AC 163:=⟨call163⟩
instance:Callable AC 164:=⟨call164⟩
instance:Callable AC 165:=⟨call165⟩
instance:Callable AC 166:=⟨call166⟩
instance:Callable AC 167:=⟨call167⟩
instance:Callable AC 168:=⟨call168⟩
instance:Callable AC 169:=⟨call169⟩
instance:Callable AC 170:=⟨call170⟩
instance:Callable AC 171:=⟨call171⟩
instance:Callable AC 178:=⟨call178⟩
instance:Callable AC 179:=⟨call179⟩
instance:Callable AC 180:=⟨call180⟩
instance:Callable AC 181:=⟨call181⟩
instance:Callable AC 183:=⟨call183⟩
instance:Callable AC 184:=⟨call184⟩
instance:Callable AC 185:=⟨call185⟩
instance:Callable AC 186:=⟨call186⟩
instance:Callable AC 187:=⟨call187⟩
instance:Callable AC 188:=⟨call188⟩
instance:Callable AC 189:=⟨call189⟩
instance:Callable AC 190:=⟨call190⟩
instance:Callable AC 191:=⟨call191⟩
instance:Callable AC 192:=⟨call192⟩
instance:Callable AC 193:=⟨call193⟩
instance:Callable AC 194:=⟨call194⟩
instance:Callable AC 195:=⟨call195⟩
instance:Callable AC 196:=⟨call196⟩
instance:Callable AC 197:=⟨call197⟩
instance:Callable AC 198:=⟨call198⟩
instance:Callable AC 199:=⟨call199⟩
instance:Callable AC 200:=⟨call200⟩
instance:Callable AC 201:=⟨call201⟩
instance:Callable AC 202:=⟨call202⟩
instance:Callable AC 203:=⟨call203⟩
instance:Callable AC 204:=⟨call204⟩
instance:Callable AC 205:=⟨call205⟩
instance:Callable AC 206:=⟨call206⟩
instance:Callable AC 207:=⟨call207⟩
instance:Callable AC 208:=⟨call208⟩
instance:Callable AC 209:=⟨call209⟩
instance:Callable AC 210:=⟨call210⟩
instance:Callable AC 211:=⟨call211⟩
instance:Callable AC 212:=⟨call212⟩
instance:Callable AC 213:=⟨call213⟩
instance:Callable AC 215:=⟨call215⟩
instance:Callable AC 216:=⟨call216⟩
instance:Callable AC 217:=⟨call217⟩
instance:Callable AC 218:=⟨call218⟩
instance:Callable AC 219:=⟨call219⟩
instance:Callable AC 220:=⟨call220⟩
instance:Callable AC 224:=⟨call224⟩
instance:Callable AC 225:=⟨call225⟩
instance:Callable AC 226:=⟨call226⟩
instance:Callable AC 227:=⟨call227⟩
instance:Callable AC 228:=⟨call228⟩
instance:Callable AC 229:=⟨call229⟩
instance:Callable AC 230:=⟨call230⟩
instance:Callable AC 231:=⟨call231⟩
instance:Callable AC 232:=⟨call232⟩
instance:Callable AC 233:=⟨call233⟩
instance:Callable AC 234:=⟨call234⟩
instance:Callable AC 235:=⟨call235⟩
instance:Callable AC 236:=⟨call236⟩
instance:Callable AC 237:=⟨call237⟩
instance:Callable AC 238:=⟨call238⟩
instance:Callable AC 240:=⟨call240⟩
instance:Callable AC 241:=⟨call241⟩
instance:Callable AC 242:=⟨call242⟩
instance:Callable AC 243:=⟨call243⟩
instance:Callable AC 244:=⟨call244⟩
instance:Callable AC 245:=⟨call245⟩
instance:Callable AC 246:=⟨call246⟩
instance:Callable AC 248:=⟨call248⟩
instance:Callable AC 249:=⟨call249⟩
instance:Callable AC 250:=⟨call250⟩
instance:Callable AC 251:=⟨call251⟩
instance:Callable AC 252:=⟨call252⟩
instance:Callable AC 253:=⟨call253⟩
instance:Callable AC 271:=⟨call271⟩
instance:Callable AC 272:=⟨call272⟩
instance:Callable AC 273:=⟨call273⟩
instance:Callable AC 274:=⟨call274⟩
instance:Callable AC 275:=⟨call275⟩
instance:Callable AC 276:=⟨call276⟩
instance:Mixed AC:=⟨by kernel_rfl⟩
end Go.Proofs.YtaofijjjheiknaaGreat
namespace Go.Spc
abbrev Ext:=Nat×Nat
def fok (n:Nat) (l:List Ext):Prop:=(∀e∈l,1≤e.2∧e.1+e.2≤n)∧l.Pairwise fun a b=>a.1+a.2<b.1
def inF (l:List Ext) (x:Nat):Prop:=∃e∈l,e.1≤x∧x<e.1+e.2
@[simp] theorem Yh (x:Nat):inF [] x↔False:=by simp[inF]
@[simp] theorem Ke (e:Ext) (l:List Ext) (x:Nat):inF (e::l) x↔(e.1≤x∧x<e.1+e.2)∨inF l x:=by simp[inF]
@[simp] theorem Td (a b:List Ext) (x:Nat):inF (a++b) x↔inF a x∨inF b x:=by
 simp only[inF,List.mem_append];constructor
 ·rintro⟨e,h|h,h2⟩
  ·exact .inl ⟨e,h,h2⟩
  ·exact .inr ⟨e,h,h2⟩
 ·rintro(⟨e,h,h2⟩|⟨e,h,h2⟩)
  ·exact⟨e,.inl h,h2⟩
  ·exact⟨e,.inr h,h2⟩
theorem Gk {n:Nat} {a b:List Ext}:fok n (a++b)↔fok n a∧fok n b∧∀x∈a,∀y∈b,x.1+x.2<y.1:=by
 unfold fok;rw[List.pairwise_append];constructor
 ·rintro⟨h1,h2,h3,h4⟩;exact⟨⟨fun e he=>h1 e (List.mem_append_left _ he),h2⟩,⟨fun e he=>h1 e (List.mem_append_right _ he),h3⟩,h4⟩
 ·rintro⟨⟨h1,h2⟩,⟨h3,h4⟩,h5⟩;refine⟨fun e he=>?_,h2,h4,h5⟩;rcases List.mem_append.1 he with h|h
  ·exact h1 e h
  ·exact h3 e h
theorem Ij {n:Nat} {e:Ext} {b:List Ext}:fok n (e::b)↔(1≤e.2∧e.1+e.2≤n)∧fok n b∧∀y∈b,e.1+e.2<y.1:=by
 unfold fok;rw[List.pairwise_cons];simp only[List.mem_cons,forall_eq_or_imp];constructor
 ·rintro⟨⟨h1,h2⟩,h3,h4⟩;exact⟨h1,⟨h2,h4⟩,h3⟩
 ·rintro⟨h1,⟨h2,h4⟩,h3⟩;exact⟨⟨h1,h2⟩,h3,h4⟩
theorem dR (n:Nat):fok n []:=⟨oA19,List.Pairwise.nil⟩
theorem dS {n:Nat} (first:Nat):∀(l:List Ext),fok n l→∃A B,l=A++B∧(∀e∈A,e.1+e.2≤first)∧∀e∈B,first<e.1+e.2
 |[],_=>⟨[],[],rfl,by simp,by simp⟩
 |e::l,h=>by
  obtain⟨h1,h2,h3⟩:=Ij.1 h;by_cases he:first<e.1+e.2
  ·refine⟨[],e::l,rfl,by simp,?_⟩;intro y hy;rcases List.mem_cons.1 hy with rfl|hy
   ·exact he
   ·have:=h3 y hy;have:=h2.1 y hy;omega
  ·obtain⟨A,B,rfl,hA,hB⟩:=dS first l h2
   refine⟨e::A,B,rfl,?_,hB⟩;intro y hy;rcases List.mem_cons.1 hy with rfl|hy
   ·omega
   ·exact hA y hy
theorem oG {first m:Nat} {e:Ext} {B:List Ext} (h1:first<e.1+e.2) (he:1≤e.2) (hd:∀x,first≤x→x<first+m→¬inF (e::B) x) (hm:1≤m):first+m≤e.1:=by
 by_cases hh:first+m≤e.1
 ·exact hh
 ·exfalso;by_cases h2:e.1≤first
  ·exact hd first (Nat.le_refl _) oM ((Ke ..).2 (.inl ⟨h2,h1⟩))
  ·exact hd e.1 oM oM ((Ke ..).2 (.inl ⟨Nat.le_refl _,oM⟩))
def Bc (l:List Ext):Nat:=(l.map (·.2)).sum
@[simp] theorem oH (a b:List Ext):Bc (a++b)=Bc a+Bc b:=by simp[Bc]
@[simp] theorem Uw (e:Ext) (b:List Ext):Bc (e::b)=e.2+Bc b:=by simp[Bc]
@[simp] theorem total_nil:Bc []=0:=rfl
theorem dT (m:Nat):∀(l:List Ext),(∀e∈l,e.2<m)∨∃A e B,l=A++e::B∧m≤e.2∧∀x∈A,x.2<m
 |[]=> .inl oA19
 |e::l=>by
  by_cases he:m≤e.2
  ·exact .inr ⟨[],e,l,rfl,he,by simp⟩
  ·rcases dT m l with h|⟨A,x,B,rfl,h1,h2⟩
   ·left;intro y hy;rcases List.mem_cons.1 hy with rfl|hy
    ·omega
    ·exact h y hy
   ·right;refine⟨e::A,x,B,rfl,h1,fun y hy=>?_⟩;rcases List.mem_cons.1 hy with rfl|hy
    ·omega
    ·exact h2 y hy
def big:List Ext→Nat
 |[]=>0
 |e::l=>max e.2 (big l)
theorem Yi (a b:List Ext):big (a++b)=max (big a) (big b):=by
 induction a with
 |nil=>simp[big]
 |cons e a ih=>simp only[List.cons_append,big,ih];omega
theorem Yj:∀{l:List Ext} {e:Ext},e∈l→e.2≤big l
 |x::l,e,h=>by
  rcases List.mem_cons.1 h with rfl|h
  ·simp only[big];omega
  ·have:=Yj h;simp only[big];omega
theorem dU:∀{l:List Ext},0<big l→∃e∈l,e.2=big l
 |x::l,h=>by
  simp only[big] at h⊢;by_cases hh:big l≤x.2
  ·exact⟨x,List.mem_cons_self,oM⟩
  ·obtain⟨e,he,h2⟩:=dU (l:=l) oM;exact⟨e,List.mem_cons_of_mem _ he,oM⟩
end Go.Spc
namespace Go.Proofs.YtaofijjjheiknaaGreat
open Go.SL Go.Spc
def Af:List Ext→List Value
 |[]=>[]
 |e::l=> Z9 Z8 e.1:: Z9 Z8 e.2::Af l
@[simp] theorem Oe (l:List Ext):(Af l).length=l.length*2:=by
 induction l with
 |nil=>rfl
 |cons e l ih=>simp only[Af,AJ,ih];omega
@[simp] theorem Tf (a b:List Ext):Af (a++b)=Af a++Af b:=by
 induction a with
 |nil=>rfl
 |cons e a ih=>simp[Af,ih]
theorem Rg (l:List Ext):(Af l).all Value.oneCell'=true:=by
 induction l with
 |nil=>rfl
 |cons e l ih=>simpa[Af,Value.oneCell'] using ih
theorem Ln {a c vs:List Value} {o:Nat} (ho:a.length=o) (h:vs.length≤c.length):∃y,Bq (a++c) o vs=a++(vs++y)∧vs.length+y.length=c.length∧y=c.drop vs.length:=by subst ho;refine⟨c.drop vs.length,?_,by simp;omega,rfl⟩;rw[Lm _ _ _ oA16];simp
theorem Vec.mk' {E sz b cap m:Nat} {cs xs rest:List Value} (aa:cs=xs++rest) (h1:xs.length=m*sz) (h2:cap*sz≤cs.length) (h3:m≤cap) (h4:cap≤maxLen):Vec E sz (some ⟨b,0,none⟩) m cap xs [(b,row cs E)]:=by subst aa;exact⟨h1,.inr ⟨b,rest,rfl,rfl,by simpa using h2,h3,h4⟩⟩
theorem Yk {a c r:List Value} {o m:Nat} (ho:a.length=o) (h:c.length=m):((a++(c++r)).drop o).take m=c:=by subst ho h;simp
theorem Ux {a r:List Value} {m:Nat} (h:a.length=m):((a++r).drop 0).take m=a:=by subst h;simp
theorem oJ (p:Option Addr) (cap:Nat) (A B:List Ext) (x:Ext) (c:Aa) (i n:Nat) (hi:A.length=i) (hn:n=i+1+B.length) (hm:n≤1000000) (hV:Vec 141 2 p n cap (Af (A++[x]++B)) c):Ct AC 205 [.slice p n cap,Z9 Z8 i,Z9 Z8 ((i:Int)+1),.slice none 0 0] [c] fun v H'=> ∃p' cap' c',v= .slice p' (i+B.length) cap'∧Vec 141 2 p' (i+B.length) cap' (Af (A++B)) c'∧H'=[c']:=by
 obtain⟨ah,hV⟩:=hV;rcases hV with⟨_,h0,_⟩|⟨b,rest,rfl,rfl,ad,aq,ab⟩
 ·omega
 simp only[Tf,AT] at ah ad⊢;have au:(Af [x]).length=2:=rfl;have ac:(Af A).length=i*2:=by rw[Oe,hi]
 have ai:(Af B).length=B.length*2:=Oe B;have aa:cap*2≤(Af A++(Af [x]++(Af B++rest))).length:=by simp only[AH] at ad⊢;omega
 have e1:((i:Int)+1).toNat=i+1:=oM;have ae:=ab;simp only[maxLen] at ae;generalize Af [x]=X at*;have ao:=Rg B;by_cases hB:B=[]
 ·subst hB;simp only[AO,B7,Af,AB] at hn aa ai⊢;subst hn;obtain⟨y,aj,hy,_⟩:=Ln (vs:=Bn (i+1-i) [Z9 Z8 0,Z9 Z8 0]) (c:=X++rest) ac (by rw[Mh];simp only[AH,AJ,AO];omega);have ak:i*2+(i+1-i)*2≤(Af A++(X++rest)).length:=by simp only[AH];omega
  refine cG func205 fun _=>?_;repeat(refine sv ?_;intros)
  (refine dP [[(b,row (Af A++(Bn (i+1-i) [Z9 Z8 0,Z9 Z8 0]++y)) 141)]] ?_;refine⟨some ⟨b,0,none⟩,cap,_,rfl,?_,rfl⟩);refine Vec.mk' (rest:=Bn (i+1-i) [Z9 Z8 0,Z9 Z8 0]++y) oA19 (by simpa using ac) ?_ oM ab;simp only[AH] at aa hy⊢;omega
 ·have av:0<B.length:=List.length_pos_iff.2 hB;have aw:B.length=n-(i+1):=oM;have e2:((i:Int)+((0:Nat):Int)+((n-(i+1):Nat):Int)).toNat=n-1:=oM;have e3:((i:Int)+((0:Nat):Int)).toNat=i:=oM;have e4:Nat.min (n-(i+1)) (n-1-i)=n-(i+1):=ED oM;have e5:(Af B).length=(n-(i+1))*2:=oM;have al:(Af A++X).length=(i+1)*2:=by simp only[AH];omega
  have hd:((Af A++(X++(Af B++rest))).drop ((i+1)*2)).take ((n-(i+1))*2)=Af B:=by have:=Yk (a:=Af A++X) (c:=Af B) (r:=rest) al e5;rwa[AT] at this
  obtain⟨y,aj,hy,_⟩:=Ln (vs:=Af B) (c:=X++(Af B++rest)) ac oA13;have ag:(Af A++Af B).length=(n-1)*2:=by simp only[AH];omega
  obtain⟨z,am,hz,_⟩:=Ln (vs:=Bn (n-(n-1)) [Z9 Z8 0,Z9 Z8 0]) (c:=y) ag (by rw[Mh];simp only[AH,AJ,AO] at hy⊢;omega);rw[AT,AT] at am;have ax:i*2+(n-(i+1))*2≤(Af A++(X++(Af B++rest))).length:=by simp only[AH] at hy⊢;omega
  have ak:(n-1)*2+(n-(n-1))*2≤(Af A++(Af B++y)).length:=by simp only[AH] at hy aa⊢;omega
  have an:i+B.length=n-1:=oM;rw[an];refine cG func205 fun _=>?_;repeat(refine sv ?_;intros)
  (refine dP [[(b,row (Af A++(Af B++(Bn (n-(n-1)) [Z9 Z8 0,Z9 Z8 0]++z))) 141)]] ?_;refine⟨some ⟨b,0,none⟩,cap,_,rfl,?_,rfl⟩);refine Vec.mk' (rest:=Bn (n-(n-1)) [Z9 Z8 0,Z9 Z8 0]++z) oA19 ag ?_ oM ab;simp only[AH] at aa hy hz⊢;omega
theorem oL (p:Option Addr) (cap:Nat) (A B Xs:List Ext) (e:Ext) (c:Aa) (i j n:Nat) (hi:A.length=i) (hj:j=i+Xs.length) (an:1≤Xs.length) (ao:Xs.length≤2) (hn:n=j+B.length) (hm:n≤1000000) (bv cv:Nat) (ab:List Value) (jj:Int) (am:jj=(j:Int)) (hV:Vec 141 2 p n cap (Af (A++Xs++B)) c):Ct AC 205 [.slice p n cap,Z9 Z8 i,Z9 Z8 jj,.slice (some ⟨bv,0,none⟩) 1 cv] [c,[(bv,row (Af [e]++ab) 141)]] fun v H'=> ∃p' cap' c',v= .slice p' (i+1+B.length) cap'∧Vec 141 2 p' (i+1+B.length) cap' (Af (A++[e]++B)) c'∧H'=[c']:=by
 subst am;obtain⟨aq,hV⟩:=hV;rcases hV with⟨_,h0,_⟩|⟨b,rest,rfl,rfl,ah,a5,ac⟩
 ·omega
 simp only[Tf,AT] at aq ah⊢;have a6:(Af Xs).length=(j-i)*2:=by rw[Oe];omega
 have au:(Af [e]).length=2:=rfl;have av:(Af A).length=i*2:=by rw[Oe,hi]
 have aw:(Af B).length=B.length*2:=Oe B;have aa:cap*2≤(Af A++(Af Xs++(Af B++rest))).length:=by simp only[AH] at ah⊢;omega
 have a7:i+1≤j∧j≤i+2:=oM;clear an ao hj hi;have ai:=ac;simp only[maxLen] at ai;have a8:=Rg [e];have a4:=Rg B;generalize Af Xs=X at*;generalize Af [e]=V at*;have a9:((V++ab).drop 0).take (1*2)=V:=Ux oM;have bc:V.length=1*2:=oM;obtain⟨y,ax,hy,ay⟩:=Ln (vs:=V) (c:=X++(Af B++rest)) av oA13;have az:i*2+1*2≤(Af A++(X++(Af B++rest))).length:=by simp only[AH] at hy⊢;omega
 by_cases hB:B=[]
 ·subst hB;simp only[AO,B7,Af,AB] at hn aa aw ax az hy⊢;obtain rfl:=hn.symm;by_cases aj:j=i+1
  ·subst aj;refine cG func205 fun _=>?_;repeat(refine sv ?_;intros)
   (refine dP [[(b,row (Af A++(V++y)) 141)]] ?_;refine⟨some ⟨b,0,none⟩,cap,_,rfl,?_,rfl⟩);refine Vec.mk' (rest:=y) oA19 (by simp only[AQ,AH];omega) ?_ oM ac;simp only[AH] at aa hy⊢;omega
  ·have ad:(Af A++V).length=(i+1)*2:=by simp only[AH];omega
   obtain⟨z,ae,hz,_⟩:=Ln (vs:=Bn (j-(i+1)) [Z9 Z8 0,Z9 Z8 0]) (c:=y) ad (by rw[Mh];simp only[AH,AJ,AO] at hy⊢;omega);rw[AT,AT] at ae;have a0:(i+1)*2+(j-(i+1))*2≤(Af A++(V++y)).length:=by simp only[AH] at hy aa⊢;omega
   refine cG func205 fun _=>?_;repeat(refine sv ?_;intros)
   (refine dP [[(b,row (Af A++(V++(Bn (j-(i+1)) [Z9 Z8 0,Z9 Z8 0]++z))) 141)]] ?_;refine⟨some ⟨b,0,none⟩,cap,_,rfl,?_,rfl⟩);refine Vec.mk' (rest:=Bn (j-(i+1)) [Z9 Z8 0,Z9 Z8 0]++z) oA19 (by simp only[AQ,AH];omega) ?_ oM ac;simp only[AH] at aa hy hz⊢;omega
 ·have be:0<B.length:=List.length_pos_iff.2 hB;have bf:B.length=n-j:=oM;have e2:((i:Int)+((1:Nat):Int)+((n-j:Nat):Int)).toNat=i+1+(n-j):=oM;have e3:((i:Int)+((1:Nat):Int)).toNat=i+1:=oM;have e4:Nat.min 1 (i+1+(n-j)-i)=1:=ED oM;have e5:Nat.min (n-j) (i+1+(n-j)-(i+1))=n-j:=ED oM;have e6:(Af B).length=(n-j)*2:=oM;have ad:(Af A++V).length=(i+1)*2:=by simp only[AH];omega
  have ag:y=X.drop 2++(Af B++rest):=by rw[ay,au,DB oM]
  have a1:(Af A++(V++X.drop 2)).length=j*2:=by simp only[AH,CL];omega
  have hd:((Af A++(V++y)).drop (j*2)).take ((n-j)*2)=Af B:=by have:=Yk (a:=Af A++(V++X.drop 2)) (c:=Af B) (r:=rest) a1 e6;rw[ag];simpa only[AT] using this
  obtain⟨z,ae,hz,_⟩:=Ln (vs:=Af B) (c:=y) ad (by rw[ag];simp only[AH];omega);rw[AT,AT] at ae;have a0:(i+1)*2+(n-j)*2≤(Af A++(V++y)).length:=by rw[ag];simp only[AH,CL] at aa⊢;omega
  have a2:i+1+B.length=i+1+(n-j):=oM;have ak:cap*2≤(Af A++(V++(Af B++z))).length:=by simp only[AH] at aa hy hz⊢;omega
  rw[a2];by_cases aj:j=i+1
  ·refine cG func205 fun _=>?_;repeat(refine sv ?_;intros)
   (refine dP [[(b,row (Af A++(V++(Af B++z))) 141)]] ?_;refine⟨some ⟨b,0,none⟩,cap,_,rfl,?_,rfl⟩);exact Vec.mk' (rest:=z) oA19 oA13 ak oM ac
  ·have al:(Af A++(V++Af B)).length=(i+1+(n-j))*2:=by simp only[AH];omega
   obtain⟨u,a3,hu,_⟩:=Ln (vs:=Bn (n-(i+1+(n-j))) [Z9 Z8 0,Z9 Z8 0]) (c:=z) al (by rw[Mh];simp only[AH,AJ,AO] at hy hz⊢;omega);simp only[AT] at a3;have bg:(i+1+(n-j))*2+(n-(i+1+(n-j)))*2≤(Af A++(V++(Af B++z))).length:=oM;refine cG func205 fun _=>?_;repeat(refine sv ?_;intros)
   (refine dP [[(b,row (Af A++(V++(Af B++(Bn (n-(i+1+(n-j))) [Z9 Z8 0,Z9 Z8 0]++u)))) 141)]] ?_;refine⟨some ⟨b,0,none⟩,cap,_,rfl,?_,rfl⟩);refine Vec.mk' (rest:=Bn (n-(i+1+(n-j))) [Z9 Z8 0,Z9 Z8 0]++u) oA19 oA13 ?_ oM ac;simp only[AH] at ak hu⊢;omega
theorem oN {w:World} {w0:World} {S:List Nat} {H:Hp} (aa:St w0 S w H) {ba oa la ca bb ob lb cb:Nat} {csa csb:List Value} {tA tB:TypeId} (ha:Has ba (row csa tA) H) (hb:Has bb (row csb tB) H) (ac:ba≠bb) (ab:csb.length≠0):(callFunc 221 #[.slice (some ⟨ba,oa,none⟩) la ca,.slice (some ⟨bb,ob,none⟩) lb cb]).run AC w= .ok (.value (.bool false)) w:=by
 rw[run_callFunc_extern func221 (by kernel_rfl) (by kernel_rfl) (by kernel_rfl) (e:=Extern.SlicesOverlaps.overlaps #[142,142] #[4]) (by kernel_rfl),
  oE (SliceT.und (P:=AC) (T:=142)) (fun w=>SliceT.size (P:=AC) (T:=142) w) ac (ha.st aa) (hb.st aa) ab]
 rfl
theorem Ins_ct (p:Option Addr) (cap:Nat) (A B:List Ext) (e:Ext) (c:Aa) (i n:Nat) (hi:A.length=i) (hn:n=i+B.length) (hm:n≤1000000) (bv cv:Nat) (aa:List Value) (hV:Vec 141 2 p n cap (Af (A++B)) c):Ct AC 220 [.slice p n cap,Z9 Z8 i,.slice (some ⟨bv,0,none⟩) 1 cv] [c,[(bv,row (Af [e]++aa) 141)]] fun v H'=> ∃p' cap' c',v= .slice p' (i+1+B.length) cap'∧Vec 141 2 p' (i+1+B.length) cap' (Af (A++[e]++B)) c'∧H'=[c']:=by
 have ae:=hV;have ao:(Af [e]).length=2:=rfl;have ac:(Af A).length=i*2:=by rw[Oe,hi]
 have a9:(Af B).length=B.length*2:=Oe B;have bc:=Rg [e];have a8:=Rg B;have be:((Af [e]++aa).drop 0).take (1*2)=Af [e]:=Ux oM;have bf:(Af [e]).length=1*2:=oM;have bg:n≤cap:=by
  obtain⟨_,h|⟨b,rest,_,_,_,h,_⟩⟩:=hV
  ·omega
  ·exact h
 by_cases hB:B=[]
 ·subst hB;simp only[AO,B7,AQ] at hn⊢;obtain rfl:=hn.symm;rw[AQ] at hV ae;rw[Tf];have bh:(i:Int)≤(i:Int):=Int.le_refl _;refine cG func220 fun _=>?_;repeat(refine sv ?_;intros)
  rename_i p' cap' c' aq;(refine dP [c'] ?_;exact⟨p',cap',c',rfl,aq,rfl⟩)
 ·have bi:0<B.length:=List.length_pos_iff.2 hB;obtain⟨au,hV⟩:=hV;rcases hV with⟨_,h0,_⟩|⟨b,rest,rfl,rfl,ag,bk,ah⟩
  ·omega
  clear ae;simp only[Tf,AT] at au ag⊢;have ai:cap*2≤(Af A++(Af B++rest)).length:=by simp only[AH] at ag⊢;omega
  have aj:=ah;simp only[maxLen] at aj;generalize bp:Af [e]=V at*;have e5:(Af B).length=(n-i)*2:=oM;have hd:((Af A++(Af B++rest)).drop (i*2)).take ((n-i)*2)=Af B:=Yk ac e5;have av:i+1+B.length=n+1:=oM;rw[av];have aw:(Af A++V).length=(i+1)*2:=by simp only[AH];omega
  have e6:((i:Int)+((1:Nat):Int)).toNat=i+1:=oM;by_cases ax:n+1≤cap
  ·have e7:((n:Int)+((1:Nat):Int)).toNat=n+1:=oM;have e8:Nat.min (n+1-i) (n+1-(i+1))=n-i:=by rw[show n+1-(i+1)=n-i by omega];exact Nat.min_eq_right oM
   have e9:Nat.min 1 (n+1-i)=1:=ED oM;have ay:((Af A++(Af B++rest)).take ((i+1)*2)).length=(i+1)*2:=by rw[BJ];omega
   obtain⟨y,ad,hy,_⟩:=Ln (vs:=Af B) (c:=(Af A++(Af B++rest)).drop ((i+1)*2)) ay (by rw[CL];omega);rw[BV] at ad;have ak:(Af A++(Af B++rest)).take ((i+1)*2)=Af A++(Af B++rest).take 2:=by rw[List.take_append,ac,A6 oM];congr 2;omega
   rw[ak,AT] at ad;have az:(i+1)*2+(n-i)*2≤(Af A++(Af B++rest)).length:=oM;have bq:((Af B++rest).take 2).length=2:=by rw[BJ,AH];omega
   have a0:cap*2≤(Af A++((Af B++rest).take 2++(Af B++y))).length:=by simp only[AH,CL] at hy ai⊢;omega
   obtain⟨z,al,hz,a1⟩:=Ln (vs:=V) (c:=(Af B++rest).take 2++(Af B++y)) ac oA13;have am:z=Af B++y:=by rw[a1,ao,DB oM,List.drop_of_length_le oM,AB]
   subst am;have a2:i*2+1*2≤(Af A++((Af B++rest).take 2++(Af B++y))).length:=oM;have bu:((Af A++(Af B++rest)).drop (i*2)).take ((n-i)*2)=Af B:=hd;refine cG func220 fun _=>?_;repeat(refine sv ?_;intros)
   apply R1.nodup
   ·exact rfl
   intro a3;have a4:bv≠b:=by intro h;subst h;simp[Bj] at a3
   apply R.callE
   ·exact rfl
   ·intro _ _ w a5;exact oN (a5) (csa:=V++aa) (csb:=Af A++(Af B++rest)) (by repeat(first|exact Has.here|apply Has.there)) (by repeat(first|exact Has.here|apply Has.there)) a4 oM
   ·exact rfl
   ·exact nle rfl
   repeat(refine sv ?_;intros)
   (refine dP [[(b,row (Af A++(V++(Af B++y))) 141)]] ?_;refine⟨some ⟨b,0,none⟩,cap,_,rfl,?_,rfl⟩);refine Vec.mk' (rest:=y) oA19 oA13 ?_ oM ah;simp only[AH] at a0⊢;omega
  ·have e7:(n:Int)+((1:Nat):Int)-(i:Int)=((n+1-i:Nat):Int):=oM;have e8:Nat.min (n-i) (i+(n+1-i)-(i+1))=n-i:=ED oM;have e9:Nat.min 1 (i+(n+1-i)-i)=1:=ED oM;have a6:(Af A++(Af B++rest)).take (i*2)=Af A:=by rw[List.take_append_of_le_length oM,A6 oM]
   have bz:(Bn (n+1-i) [Value.int .i64 0,Value.int .i64 0]).length=(n+1-i)*2:=by rw[Mh];rfl
   have b1:i*2≤(Af A++(Af B++rest)).length:=oM;refine cG func220 fun _=>?_;repeat(refine sv ?_;intros)
   rename_i b' cap' ab an b2 a7;rw[a6] at an⊢;obtain⟨y,ad,hy,_⟩:=Ln (vs:=V) (c:=Bn (n+1-i) [Z9 Z8 0,Z9 Z8 0]++ab) ac oA13;rw[←AT] at ad;have az:i*2+1*2≤(Af A++Bn (n+1-i) [Z9 Z8 0,Z9 Z8 0]++ab).length:=by simp only[AH];omega
   obtain⟨z,al,hz,_⟩:=Ln (vs:=Af B) (c:=y) aw (by simp only[AH] at hy⊢;omega);simp only[AT] at al;have a2:(i+1)*2+(n-i)*2≤(Af A++(V++y)).length:=by simp only[AH] at hy⊢;omega
   repeat(refine sv ?_;intros)
   (refine dP [[(b',row (Af A++(V++(Af B++z))) 141)]] ?_;refine⟨some ⟨b',0,none⟩,cap',_,?_,?_,rfl⟩)
   ·show Value.slice (some ⟨b',0,none⟩) (i+(n+1-i)) cap'=_;rw[show i+(n+1-i)=n+1 by omega]
   refine Vec.mk' (rest:=z) oA19 oA13 ?_ oM a7;simp only[AH] at an hy hz⊢;omega
structure Sp where
 n:Nat
 free:List Ext
def Bg (n:Nat) (p:Option Addr) (m cap:Nat):List Value:=[Z9 Z8 0,Z9 Z8 n,.slice p m cap]
def Kf (bs:Nat) (σ:Sp) (c:Aa):Prop:=
 ∃p cap vc,c=(bs,row (Bg σ.n p σ.free.length cap) 144)::vc∧Vec 141 2 p σ.free.length cap (Af σ.free) vc∧fok σ.n σ.free∧σ.n≤1000000
theorem Ik {n:Nat}:∀{l:List Ext} {k:Nat},fok n l→(∀e∈l,k≤e.1)→k≤n→l.length≤n-k
 |[],_,_,_,_=>by simp
 |e::l,k,h,hk,hn=>by obtain⟨h1,h2,h3⟩:=Ij.1 h;have:=Ik (k:=e.1+e.2) h2 (fun y hy=>EK (h3 y hy)) h1.2;have:=hk e AE;simp only[AJ];omega
theorem Gy (f b:Nat) (h:f+b≤1000000):CtQ AC 204 [.agg #[Z9 Z8 f,Z9 Z8 b]] [] (Z9 Z8 ((f+b:Nat):Int)):=by
 have e:(f:Int)+(b:Int)=((f+b:Nat):Int):=oM;have ew:IntKind.wrap .i64 ((f:Int)+(b:Int))=((f+b:Nat):Int):=by rw[e];exact Ah oM
 refine cG func204 fun _=>?_;repeat(refine sA ?_;intros)
 (refine dP [] ?_;exact⟨rfl,rfl⟩)
theorem Mi (bs:Nat) (σ:Sp) (c:Aa) (h:Kf bs σ c) (first n:Nat) (hn:1≤n) (hf:first+n≤σ.n):CtQ AC 202 [.pointer (some ⟨bs,0,none⟩),Z9 Z8 first,Z9 Z8 n] [c] (.bool true):=by
 obtain⟨p,cap,vc,rfl,hV,aa,ab⟩:=h;have hE:=Gy 0 σ.n oM;rw[Nat.zero_add] at hE;refine CtQ.conv (H2:=[[(bs,row (Bg σ.n p σ.free.length cap) 144)],vc]) ?_ oA19;unfold Bg;refine cG func202 fun _=>?_;repeat(refine sA ?_;intros)
 (refine dP [[(bs,row [Z9 Z8 0,Z9 Z8 σ.n,.slice p σ.free.length cap] 144)],vc] ?_;refine⟨?_,rfl⟩);first|rfl|(rw[Dt oM];rfl)
theorem Hn {A B:List Ext} {e:Ext} {rest:List Value} {i:Nat} (hi:A.length=i):(((Af (A++e::B)++rest).drop (i*2)).take 2=[Z9 Z8 e.1,Z9 Z8 e.2])∧(Af (A++e::B)++rest)[i*2]? =some (Z9 Z8 e.1)∧(Af (A++e::B)++rest)[i*2+1]? =some (Z9 Z8 e.2):=by
 have hA:(Af A).length=i*2:=by rw[Oe,hi]
 rw[Tf,AT];refine⟨?_,?_,?_⟩
 ·rw[←hA];simp[Af]
 ·rw[BL oM,hA,Nat.sub_self];rfl
 ·rw[BL oM,hA,show i*2+1-i*2=1 by omega];rfl
theorem Uy {l:List Ext} {i:Nat} (h:i<l.length):∃A e B,l=A++e::B∧A.length=i:=by refine⟨l.take i,l[i],l.drop (i+1),?_,by simp;omega⟩;rw[←List.drop_eq_getElem_cons h,BV]
theorem oO (bs b1 b2 vb:Nat) (n cap first:Nat) (free:List Ext) (rest:List Value) (aa:fok n free) (hn:n≤1000000) (k:Nat) (hk:k<free.length) (A B:List Ext) (e:Ext) (hs:free=A++e::B) (hi:A.length=k):CtQ AC 219 [Z9 Z8 k,.pointer (some ⟨b1,0,none⟩),.pointer (some ⟨b2,0,none⟩)] [[(bs,row (Bg n (some ⟨vb,0,none⟩) free.length cap) 144)],[(vb,row (Af free++rest) 141)],[(b1,row [.pointer (some ⟨bs,0,none⟩)] 82)],[(b2,row [Z9 Z8 first] 3)]] (.bool (dec ((first:Int)<((e.1+e.2:Nat):Int)))):=by
 subst hs;have he:=(Gk.1 aa).2.1;have ab:=(Ij.1 he).1;have hE:=Gy e.1 e.2 oM;obtain⟨g1,g2,g3⟩:=Hn (rest:=rest) (B:=B) (e:=e) hi;unfold Bg;generalize Af (A++e::B)++rest=cells at*;refine cG func219 fun _=>?_;repeat(refine sA ?_;intros)
 (refine dP [[(bs,row [Z9 Z8 0,Z9 Z8 n,.slice (some ⟨vb,0,none⟩) (A++e::B).length cap] 144)],[(vb,row cells 141)],[(b1,row [.pointer (some ⟨bs,0,none⟩)] 82)],[(b2,row [Z9 Z8 first] 3)]] ?_;exact⟨rfl,rfl⟩)
theorem oP (bs b1 b2:Nat) (n cap first:Nat) (p:Option Addr) (vc:Aa) (A B:List Ext) (ab:fok n (A++B)) (hn:n≤1000000) (hV:Vec 141 2 p (A++B).length cap (Af (A++B)) vc) (m:Nat) (hm:m=(A++B).length) (hA:∀e∈A,e.1+e.2≤first) (hB:∀e∈B,first<e.1+e.2):CtQ AC 218 [Z9 Z8 m,.func (.func 219) #[] #[.pointer (some ⟨b1,0,none⟩),.pointer (some ⟨b2,0,none⟩)]] [[(bs,row (Bg n p (A++B).length cap) 144)],vc,[(b1,row [.pointer (some ⟨bs,0,none⟩)] 82)],[(b2,row [Z9 Z8 first] 3)]] (Z9 Z8 A.length):=by
 have ai:=Ik ab (k:=0) oM oM;have aj:m≤1000000:=oM;subst hm;refine cG func218 fun _=>?_;repeat(first|(refine st ?_;intros)|refine cq hF ?_)
 refine G.loop (X:=Nat×Nat) (fun x=>x.1≤A.length∧A.length≤x.2∧x.2≤(A++B).length) (fun x=>[(6,Z9 Z8 x.2),(5,Z9 Z8 x.1),(1,.func (.func 219) #[] #[.pointer (some ⟨b1,0,none⟩),.pointer (some ⟨b2,0,none⟩)])])
  (fun _=>[[(bs,row (Bg n p (A++B).length cap) 144)],vc,[(b1,row [.pointer (some ⟨bs,0,none⟩)] 82)],[(b2,row [Z9 Z8 first] 3)]]) (fun x=>x.2-x.1) (0,(A++B).length) ⟨Nat.zero_le _,by simp,Nat.le_refl _⟩ (body:=?_)
 rintro⟨i,j⟩ ⟨hi,hj,ac⟩;dsimp only at hi hj ac⊢;by_cases ak:i<j
 ·have ad:((i:Int)+(j:Int)).fdiv (2^min (Int.toNat 1) IntKind.u64.bits)=(((i+j)/2:Nat):Int):=by
   have e0:(2:Int)^min (Int.toNat 1) IntKind.u64.bits=2:=by decide
   rw[e0,Int.fdiv_eq_ediv_of_nonneg _ oA18];omega
  generalize hh:(i+j)/2=h at ad;have al:i≤h∧h<j:=oM;obtain⟨A',e,B',hs,aa⟩:=Uy (l:=A++B) (i:=h) oM;obtain⟨_,h0|⟨vb,rest,hp,ae,_⟩⟩:=hV
  ·omega
  have hF:=oO bs b1 b2 vb n cap first (A++B) rest ab hn h oM A' B' e hs aa
  rw[←hp,←ae] at hF;by_cases ag:h<A.length
  ·have hm:e∈A:=by
    have h1:(A++B)[h]? =some e:=by rw[hs,BL oM];simp[aa]
    rw[BR ag] at h1;exact AY h1
   have ah:=hA e hm;repeat(first|(refine st ?_;intros)|refine cq hF ?_)
   exact Dn.round (h+1,j) ⟨oM,oM,oM⟩ oD
  ·have hm:e∈B:=by
    have h1:(A++B)[h]? =some e:=by rw[hs,BL oM];simp[aa]
    rw[BL oM] at h1;exact AY h1
   have ah:=hB e hm;repeat(first|(refine st ?_;intros)|refine cq hF ?_)
   exact Dn.round (i,h) ⟨oM,oM,oM⟩ oD
 ·obtain rfl:i=A.length:=by omega
  repeat(first|(refine st ?_;intros)|refine cq hF ?_)
  (refine dP [[(bs,row (Bg n p (A++B).length cap) 144)],vc,[(b1,row [.pointer (some ⟨bs,0,none⟩)] 82)],[(b2,row [Z9 Z8 first] 3)]] ?_;exact⟨rfl,rfl⟩)
theorem Mj (bs:Nat) (n cap first:Nat) (p:Option Addr) (vc:Aa) (A B:List Ext) (aa:fok n (A++B)) (hn:n≤1000000) (hV:Vec 141 2 p (A++B).length cap (Af (A++B)) vc) (hA:∀e∈A,e.1+e.2≤first) (hB:∀e∈B,first<e.1+e.2):CtQ AC 203 [.pointer (some ⟨bs,0,none⟩),Z9 Z8 first] [[(bs,row (Bg n p (A++B).length cap) 144)],vc] (Z9 Z8 A.length):=by
 have hS:=fun b1 b2=>oP bs b1 b2 n cap first p vc A B aa hn hV (A++B).length rfl hA hB
 unfold Bg at hS⊢;refine cG func203 fun _=>?_;repeat(first|(refine sA ?_;intros)|refine cq hS ?_)
 (refine dP [[(bs,row [Z9 Z8 0,Z9 Z8 n,.slice p (A++B).length cap] 144)],vc] ?_;exact⟨rfl,rfl⟩)
theorem Mk (p:Option Addr) (cap:Nat) (A B Xs:List Ext) (e:Ext) (c:Aa) (i n:Nat) (ii jj x1 x2:Int) (hi:A.length=i) (ac:ii=(i:Int)) (ab:jj=((i+Xs.length:Nat):Int)) (hx:Xs.length≤2) (hn:n=i+Xs.length+B.length) (hm:n≤1000000) (bv cv:Nat) (aa:List Value) (h1:x1=(e.1:Int)) (h2:x2=(e.2:Int)) (hV:Vec 141 2 p n cap (Af (A++Xs++B)) c):Ct AC 205 [.slice p n cap,Z9 Z8 ii,Z9 Z8 jj,.slice (some ⟨bv,0,none⟩) 1 cv] [c,[(bv,row ([Z9 Z8 x1,Z9 Z8 x2]++aa) 141)]] fun v H'=> ∃p' cap' c',v= .slice p' (i+1+B.length) cap'∧Vec 141 2 p' (i+1+B.length) cap' (Af (A++[e]++B)) c'∧H'=[c']:=by
 subst h1 h2;by_cases hX:Xs=[]
 ·subst hX;simp only[AO,B7,AQ] at ab hn hV;subst ac ab;have hI:=Ins_ct p cap A B e c i n hi hn hm bv cv aa hV;have ag:n≤cap:=by
   obtain⟨_,h|⟨b,rest,_,_,_,h,_⟩⟩:=hV
   ·omega
   ·exact h
  refine cG func205 fun _=>?_;repeat(refine sA ?_;intros)
  refine cL hI ?_;rintro _ _ ⟨p',cap',c',rfl,ad,rfl⟩;repeat(refine sA ?_;intros)
  (refine dP [c'] ?_;exact⟨p',cap',c',rfl,ad,rfl⟩)
 ·have ae:1≤Xs.length:=List.length_pos_iff.2 hX;subst ac;exact oL p cap A B Xs e c i (i+Xs.length) n hi rfl ae hx hn hm bv cv aa jj ab hV
theorem oQ (bs:Nat) (n cap:Nat) (p:Option Addr) (vc:Aa) (A B:List Ext) (e:Ext) (ae:fok n (A++e::B)) (hn:n≤1000000) (hV:Vec 141 2 p (A++e::B).length cap (Af (A++e::B)) vc) (m:Nat) (ak:1≤m) (az:m≤e.2):Ct AC 206 [.pointer (some ⟨bs,0,none⟩),Z9 Z8 e.1,Z9 Z8 m] [[(bs,row (Bg n p (A++e::B).length cap) 144)],vc] fun v H'=> v=Z9 Z8 0∧∃p' cap' vc' free',H'=[[(bs,row (Bg n p' free'.length cap') 144)],vc']∧Vec 141 2 p' free'.length cap' (Af free') vc'∧free'=A++((if m<e.2 then[(e.1+m,e.2-m)] else[])++B):=by
 have au:=Ik ae (k:=0) oM oM;obtain⟨a0,al,am⟩:=Gk.1 ae;obtain⟨a1,av,an⟩:=Ij.1 al;have hI:=Mi bs ⟨n,A++e::B⟩ _ ⟨p,cap,vc,rfl,hV,ae,hn⟩ e.1 m ak oD;have ao:CtQ AC 202 [.pointer (some ⟨bs,0,none⟩),Z9 Z8 e.1,Z9 Z8 m] [[(bs,row (Bg n p (A++e::B).length cap) 144)],vc] (.bool true):=CtQ.conv hI oA19;clear hI;have hI:=ao;have ab:=Mj bs n cap e.1 p vc A (e::B) ae hn hV (fun a ha=>EK (am a ha e AE)) (by
  intro y hy;rcases AM.1 hy with rfl|hy
  ·omega
  ·have:=an y hy;omega)
 have hE:=Gy e.1 e.2 oM;have hl:(A++e::B).length=A.length+1+B.length:=by simp;omega
 have ag:=hV;obtain⟨_,h0|⟨vb,rest,rfl,rfl,a2,a3,a4⟩⟩:=hV
 ·omega
 obtain⟨g1,g2,g3⟩:=Hn (rest:=rest) (B:=B) (e:=e) (rfl:A.length=A.length);unfold Bg at hI ab⊢;rw[hl] at hI ab ag⊢;generalize aq:Af (A++e::B)++rest=cells at*;have ah:Vec 141 2 (some ⟨vb,0,none⟩) (A.length+1+B.length) cap (Af (A++[e]++B)) [(vb,row cells 141)]:=by rw[AT];exact ag
 by_cases ai:m<e.2
 ·have hR:=fun bv cv ac x1 x2 h1 h2=>Mk (some ⟨vb,0,none⟩) cap A B [e] (e.1+m,e.2-m) [(vb,row cells 141)] A.length (A.length+1+B.length) (A.length:Int) ((A.length:Int)+1) x1 x2 rfl rfl oA19 oA19 oA19 oM bv cv ac h1 h2 ah;have hN:=Vec.nil 141 2;refine cG func206 fun _=>?_;repeat(refine sA ?_;intros)
  rename_i p' cap' c' aj;have ad:Vec 141 2 p' 1 cap' [Z9 Z8 ((e.1:Int)+(m:Int)),Z9 Z8 (((e.1+e.2:Nat):Int)-(e.1:Int)-(m:Int))] c':=aj;clear aj;obtain⟨_,h0|⟨bv,ac,rfl,rfl,aw,ax,ay⟩⟩:=ad
  ·omega
  repeat(refine sA ?_;intros)
  refine cL (hR bv cap' ac ((e.1:Int)+(m:Int)) (((e.1+e.2:Nat):Int)-(e.1:Int)-(m:Int)) oD oD) ?_;rintro _ _ ⟨p2,aa,c2,rfl,ad,rfl⟩;repeat(refine sA ?_;intros)
  (refine dP [[(bs,row [Z9 Z8 0,Z9 Z8 n,.slice p2 (A.length+1+B.length) aa] 144)],c2] ?_;refine⟨rfl,p2,aa,c2,A++[(e.1+m,e.2-m)]++B,?_,?_,?_⟩)
  ·rw[show(A++[(e.1+m,e.2-m)]++B).length=A.length+1+B.length by simp;omega]
  ·rw[show(A++[(e.1+m,e.2-m)]++B).length=A.length+1+B.length by simp;omega];exact ad
  ·simp[ai]
 ·have hR:=oJ (some ⟨vb,0,none⟩) cap A B e [(vb,row cells 141)] A.length (A.length+1+B.length) rfl rfl oM ah;refine cG func206 fun _=>?_;repeat(refine sA ?_;intros)
  refine cL hR ?_;rintro _ _ ⟨p2,aa,c2,rfl,ad,rfl⟩;repeat(refine sA ?_;intros)
  (refine dP [[(bs,row [Z9 Z8 0,Z9 Z8 n,.slice p2 (A.length+B.length) aa] 144)],c2] ?_;refine⟨rfl,p2,aa,c2,A++B,?_,?_,?_⟩)
  ·rw[AH]
  ·rw[AH];exact ad
  ·simp[ai]
theorem oR {n:Nat} {A B:List Ext} {e:Ext} {m:Nat} (h:fok n (A++e::B)) (h1:1≤m) (h2:m≤e.2):fok n (A++((if m<e.2 then[(e.1+m,e.2-m)] else[])++B)):=by
 obtain⟨hA,hB,aa⟩:=Gk.1 h;obtain⟨he,ab,ac⟩:=Ij.1 hB;split
 ·refine Gk.2 ⟨hA,Ij.2 ⟨⟨oD,oD⟩,ab,fun y hy=>?_⟩,fun x hx y hy=>?_⟩
  ·have:=ac y hy;dsimp only;omega
  ·rcases AM.1 hy with rfl|hy
   ·have:=aa x hx e AE;dsimp only;omega
   ·exact aa x hx y (AF _ hy)
 ·rw[AB];exact Gk.2 ⟨hA,ab,fun x hx y hy=>aa x hx y (AF _ hy)⟩
theorem oS {A B:List Ext} {e:Ext} {n m:Nat} (h:fok n (A++e::B)) (h1:1≤m) (h2:m≤e.2) (x:Nat):inF (A++((if m<e.2 then[(e.1+m,e.2-m)] else[])++B)) x↔inF (A++e::B) x∧¬(e.1≤x∧x<e.1+m):=by
 obtain⟨hA,hB,ad⟩:=Gk.1 h;obtain⟨he,ag,ae⟩:=Ij.1 hB;have aa:inF A x→x<e.1:=by rintro⟨y,hy,h3,h4⟩;have:=ad y hy e AE;omega
 have ab:inF B x→e.1+e.2<x:=by rintro⟨y,hy,h3,h4⟩;have:=ae y hy;omega
 by_cases ac:m<e.2
 ·simp only[ac,if_true,Td,Ke,Yh,or_false];constructor
  ·rintro(h|h|h)
   ·have:=aa h;exact⟨.inl h,oM⟩
   ·exact⟨.inr (.inl oM),oM⟩
   ·have:=ab h;exact⟨.inr (.inr h),oM⟩
  ·rintro⟨h|h|h,h5⟩
   ·exact .inl h
   ·exact .inr (.inl oM)
   ·exact .inr (.inr h)
 ·simp only[ac,if_false,AB,Td,Ke];constructor
  ·rintro(h|h)
   ·have:=aa h;exact⟨.inl h,oM⟩
   ·have:=ab h;exact⟨.inr (.inr h),oM⟩
  ·rintro⟨h|h|h,h5⟩
   ·exact .inl h
   ·omega
   ·exact .inr h
theorem oT {A B:List Ext} {e:Ext} {m:Nat} (h2:m≤e.2):Bc (A++((if m<e.2 then[(e.1+m,e.2-m)] else[])++B))+m=Bc (A++e::B):=by split<;>simp<;>omega
theorem oU {A B:List Ext} {e:Ext} {m:Nat}:big (A++e::B)≤big (A++((if m<e.2 then[(e.1+m,e.2-m)] else[])++B))+m:=by split<;>simp only[Yi,big,AB]<;>omega
theorem oV (bs:Nat) (σ:Sp) (c:Aa) (h:Kf bs σ c) (m:Nat) (hm:1≤m) (hb:m≤big σ.free):Ct AC 159 [.pointer (some ⟨bs,0,none⟩),Z9 Z8 m] [c] fun v H'=> ∃(f:Nat) (c':Aa) (σ':Sp),v= .tuple #[Z9 Z8 f,Z9 Z8 0]∧Kf bs σ' c'∧σ'.n=σ.n∧(∀x,f≤x→x<f+m→inF σ.free x)∧f+m≤σ.n∧(∀x,inF σ'.free x↔inF σ.free x∧¬(f≤x∧x<f+m))∧Bc σ'.free+m=Bc σ.free∧big σ.free≤big σ'.free+m∧H'=[c']:=by
 obtain⟨n,free⟩:=σ;dsimp only at hb;rcases dT m free with al|⟨A,e,B,rfl,ah,hA⟩
 ·exfalso;obtain⟨e,he,h2⟩:=dU (l:=free) oM;have:=al e he;omega
 obtain⟨p,cap,vc,rfl,hV,ac,hn⟩:=h;dsimp only at hV ac hn;have hH:=oQ bs n cap p vc A B e ac hn hV m hm ah;refine Ct.conv (H2:=[[(bs,row (Bg n p (A++e::B).length cap) 144)],vc]) (R2:=fun v H'=>v= .tuple #[Z9 Z8 e.1,Z9 Z8 0]∧∃p' ab ad aa,H'=[[(bs,row (Bg n p' aa.length ab) 144)],ad]∧
  Vec 141 2 p' aa.length ab (Af aa) ad∧aa=A++((if m<e.2 then[(e.1+m,e.2-m)] else[])++B)) ?_ oA19 ?_
 ·have au:=Ik ac (k:=0) oM oM;have hl:(A++e::B).length=A.length+1+B.length:=by simp;omega
  have am:=ac.1;obtain⟨_,h0|⟨vb,rest,rfl,rfl,av,aw,ax⟩⟩:=hV
  ·omega
  generalize aj:A++e::B=free at*;unfold Bg at hH⊢;generalize an:Af free++rest=cells at*;refine cG func159 fun _=>?_;repeat(refine sA ?_;intros)
  refine G.loop (X:=Nat) (fun i=>i≤A.length) (fun i=>[(17,Z9 Z8 i),(16,Z9 Z8 free.length),(15,.slice (some ⟨vb,0,none⟩) free.length cap),(0,.pointer (some ⟨bs,0,none⟩)),(1,Z9 Z8 m)])
   (fun _=>[[(bs,row [Z9 Z8 0,Z9 Z8 n,.slice (some ⟨vb,0,none⟩) free.length cap] 144)],[(vb,row cells 141)]]) (fun i=>A.length-i) 0 oM (body:=?_)
  intro i hi;obtain⟨A',x,B',hs,ak⟩:=Uy (l:=free) (i:=i) oM;obtain⟨g1,g2,g3⟩:=Hn (rest:=rest) (B:=B') (e:=x) ak;rw[←hs,an] at g1 g2 g3;have ag:free[i]? =some x:=by rw[hs,BL oM];simp[ak]
  have ay:=am x (AY ag);by_cases ao:i<A.length
  ·have az:x.2<m:=by rw[←aj,BR ao] at ag;exact hA x (AY ag)
   repeat(refine sA ?_;intros)
   exact Dn.round (i+1) oM oM
  ·obtain rfl:i=A.length:=by omega
   have aq:x=e:=by rw[←aj] at ag;simpa using ag.symm
   subst aq;repeat(refine sA ?_;intros)
   refine cX hH ?_;rintro _ _ ⟨rfl,p',ab,ad,aa,rfl,ai,ae⟩;try dsimp only[AA,AB]
   refine nx ?_;repeat(refine sA ?_;intros)
   (refine dP [[(bs,row [Z9 Z8 0,Z9 Z8 n,.slice p' aa.length ab] 144)],ad] ?_;exact⟨rfl,p',ab,ad,aa,rfl,ai,ae⟩)
 ·rintro v H' ⟨rfl,p',ab,ad,aa,rfl,ai,ae⟩;refine⟨_,⟨e.1,_,⟨n,aa⟩,rfl,⟨p',ab,ad,rfl,ai,?_,hn⟩,rfl,?_,?_,?_,?_,?_,rfl⟩,by simp⟩
  ·rw[ae];exact oR ac hm ah
  ·intro x h1 h2;dsimp only;rw[Td,Ke];exact .inr (.inl oM)
  ·have:=ac.1 e oA19;dsimp only;omega
  ·intro x;rw[ae];exact oS ac hm ah x
  ·rw[ae];exact oT ah
  ·rw[ae];exact oU
theorem oW (bs:Nat) (σ:Sp) (c:Aa) (h:Kf bs σ c) (m:Nat) (hm:1≤m) (hb:big σ.free<m) (ag:m≤1000000000):CtQ AC 159 [.pointer (some ⟨bs,0,none⟩),Z9 Z8 m] [c] (.tuple #[Z9 Z8 0,Z9 Z8 5]):=by
 obtain⟨n,free⟩:=σ;dsimp only at hb;obtain⟨p,cap,vc,rfl,hV,aa,hn⟩:=h;dsimp only at hV aa hn;have ae:=Ik aa (k:=0) oM oM;refine CtQ.conv (H2:=[[(bs,row (Bg n p free.length cap) 144)],vc]) ?_ oA19;unfold Bg;refine cG func159 fun _=>?_;repeat(refine sA ?_;intros)
 refine G.loop (X:=Nat) (fun i=>i≤free.length) (fun i=>[(17,Z9 Z8 i),(16,Z9 Z8 free.length),(15,.slice p free.length cap),(0,.pointer (some ⟨bs,0,none⟩)),(1,Z9 Z8 m)])
  (fun _=>[[(bs,row [Z9 Z8 0,Z9 Z8 n,.slice p free.length cap] 144)],vc]) (fun i=>free.length-i) 0 oM (body:=?_)
 intro i hi;by_cases ah:i<free.length
 ·obtain⟨A',x,B',hs,ab⟩:=Uy (l:=free) (i:=i) oM;obtain⟨_,h0|⟨vb,rest,hp,ad,ai,aj,ak⟩⟩:=hV
  ·omega
  obtain⟨g1,g2,g3⟩:=Hn (rest:=rest) (B:=B') (e:=x) ab;rw[←hs] at g1 g2 g3;have ac:free[i]? =some x:=by rw[hs,BL oM];simp[ab]
  have al:=aa.1 x (AY ac);have am:x.2<m:=by have:=Yj (AY ac);omega
  rw[hp,ad];generalize Af free++rest=cells at*;repeat(refine sA ?_;intros)
  exact Dn.round (i+1) oM oM
 ·obtain rfl:i=free.length:=by omega
  repeat(refine sA ?_;intros)
  (refine dP [[(bs,row [Z9 Z8 0,Z9 Z8 n,.slice p free.length cap] 144)],vc] ?_;exact⟨rfl,rfl⟩)
def Gave (n:Nat) (free free':List Ext) (first m:Nat):Prop:=fok n free'∧(∀x,inF free' x↔inF free x∨(first≤x∧x<first+m))∧Bc free'=Bc free+m∧big free≤big free'
section
variable (bs:Nat) (n cap:Nat) (p:Option Addr) (vc:Aa) (first m:Nat) (hn:n≤1000000) (hm:1≤m) (hfm:first+m≤n)
include hn hm hfm
theorem oX (ab:fok n (([]:List Ext)++([]:List Ext))) (hA:∀e∈(([]:List Ext):List Ext),e.1+e.2≤first) (hB:∀e∈(([]:List Ext):List Ext),first<e.1+e.2) (hV:Vec 141 2 p (([]:List Ext)++([]:List Ext)).length cap (Af (([]:List Ext)++([]:List Ext))) vc):Ct AC 154 [.pointer (some ⟨bs,0,none⟩),Z9 Z8 first,Z9 Z8 m] [[(bs,row (Bg n p (([]:List Ext)++([]:List Ext)).length cap) 144)],vc] fun v H'=> v=Z9 Z8 0∧∃p' cap' vc',H'=[[(bs,row (Bg n p' ([]++[(first,m)]++[]).length cap') 144)],vc']∧Vec 141 2 p' ([]++[(first,m)]++[]).length cap' (Af ([]++[(first,m)]++[])) vc':=by
 have hI:CtQ AC 202 [.pointer (some ⟨bs,0,none⟩),Z9 Z8 first,Z9 Z8 m] [[(bs,row (Bg n p (([]:List Ext)++([]:List Ext)).length cap) 144)],vc] (.bool true):=CtQ.conv (Mi bs ⟨n,(([]:List Ext)++([]:List Ext))⟩ _ ⟨p,cap,vc,rfl,hV,ab,hn⟩ first m hm hfm) oA19;have aa:=Mj bs n cap first p vc ([]:List Ext) ([]:List Ext) ab hn hV hA hB
 have ae:=Ik ab (k:=0) oM oM;have hl:(([]:List Ext)++([]:List Ext)).length=0+0:=by simp<;>omega
 have ah:(([]:List Ext):List Ext).length=0:=by simp
 have ai:([]++[(first,m)]++[]).length=0+1+0:=by simp<;>omega
 have aj:=ab.1;have ag:=Gy first m oM
 rw[hl] at hI aa ae⊢;rw[ah] at aa;rw[hl] at hV;rw[ai];unfold Bg at hI aa⊢;have hR:=fun bv=>Mk p cap [] [] [] (first,m) vc 0 (0+0) ((0:Nat):Int) ((0:Nat):Int) (first:Int) (m:Int) oA19 oM oA11 oA19 oA11 oM bv 1 [] oA14 oA9 hV;simp only[AQ] at hR;refine cG func154 fun _=>?_;repeat(first|(refine st ?_;intros)|refine G.draw (id:=7) [(17,.quiet)] (h:=?_)|refine G.draw [] (h:=?_)|refine cq hI ?_|refine cq aa ?_|refine cq hE0 ?_|refine cq ag ?_)
 refine cL (hR _) ?_;rintro _ _ ⟨p2,ac,c2,rfl,ad,rfl⟩;try dsimp only[AA,AB]
 repeat(first|(refine st ?_;intros)|refine G.draw (id:=7) [(17,.quiet)] (h:=?_)|refine G.draw [] (h:=?_)|refine cq hI ?_|refine cq aa ?_|refine cq hE0 ?_|refine cq ag ?_)
 (refine dP [[(bs,row [Z9 Z8 0,Z9 Z8 n,.slice p2 (0+1+([]:List Ext).length) ac] 144)],c2] ?_;refine⟨rfl,p2,ac,c2,?_,?_⟩)
 ·first|rfl|(rw[show([]:List Ext).length=0 by simp])
 ·first|exact ad|(simpa using ad)|(rw[show 0+1+0=0+1+([]:List Ext).length by simp];exact ad)
theorem oY (B2:List Ext) (e1:Ext) (hb:first+m<e1.1) (ab:fok n (([]:List Ext)++(e1::B2))) (hA:∀e∈(([]:List Ext):List Ext),e.1+e.2≤first) (hB:∀e∈((e1::B2):List Ext),first<e.1+e.2) (hV:Vec 141 2 p (([]:List Ext)++(e1::B2)).length cap (Af (([]:List Ext)++(e1::B2))) vc):Ct AC 154 [.pointer (some ⟨bs,0,none⟩),Z9 Z8 first,Z9 Z8 m] [[(bs,row (Bg n p (([]:List Ext)++(e1::B2)).length cap) 144)],vc] fun v H'=> v=Z9 Z8 0∧∃p' cap' vc',H'=[[(bs,row (Bg n p' ([]++[(first,m)]++(e1::B2)).length cap') 144)],vc']∧Vec 141 2 p' ([]++[(first,m)]++(e1::B2)).length cap' (Af ([]++[(first,m)]++(e1::B2))) vc':=by
 have hI:CtQ AC 202 [.pointer (some ⟨bs,0,none⟩),Z9 Z8 first,Z9 Z8 m] [[(bs,row (Bg n p (([]:List Ext)++(e1::B2)).length cap) 144)],vc] (.bool true):=CtQ.conv (Mi bs ⟨n,(([]:List Ext)++(e1::B2))⟩ _ ⟨p,cap,vc,rfl,hV,ab,hn⟩ first m hm hfm) oA19;have aa:=Mj bs n cap first p vc ([]:List Ext) (e1::B2) ab hn hV hA hB
 have ae:=Ik ab (k:=0) oM oM;have hl:(([]:List Ext)++(e1::B2)).length=0+(B2.length+1):=by simp<;>omega
 have ah:(([]:List Ext):List Ext).length=0:=by simp
 have ai:([]++[(first,m)]++(e1::B2)).length=0+1+(B2.length+1):=by simp<;>omega
 have aj:=ab.1;have ag:=Gy first m oM
 have al:=aj e1 oA19;rw[hl] at hI aa ae⊢;rw[ah] at aa;rw[hl] at hV;rw[ai];unfold Bg at hI aa⊢;have ak:=hV;obtain⟨_,h0|⟨vb,rest,rfl,rfl,am,an,ao⟩⟩:=hV
 ·omega
 obtain⟨k1,k2,k3⟩:=Hn (A:=([]:List Ext)) (rest:=rest) (B:=B2) (e:=e1) (i:=0) oA19;generalize aq:Af (([]:List Ext)++(e1::B2))++rest=cells at*;have hR:=fun bv=>Mk (some ⟨vb,0,none⟩) cap [] (e1::B2) [] (first,m) [(vb,row cells 141)] 0 (0+(B2.length+1)) ((0:Nat):Int) ((0:Nat):Int) (first:Int) (m:Int) oA19 oM oA11 oA19 oA11 oM bv 1 [] oA14 oA9
  (by rw[show[]++[]++(e1::B2)=(([]:List Ext)++(e1::B2)) by simp];exact ak)
 simp only[AQ] at hR;refine cG func154 fun _=>?_;repeat(first|(refine st ?_;intros)|refine G.draw (id:=7) [(17,.quiet)] (h:=?_)|refine G.draw [] (h:=?_)|refine cq hI ?_|refine cq aa ?_|refine cq hE0 ?_|refine cq ag ?_)
 refine cL (hR _) ?_;rintro _ _ ⟨p2,ac,c2,rfl,ad,rfl⟩;try dsimp only[AA,AB]
 repeat(first|(refine st ?_;intros)|refine G.draw (id:=7) [(17,.quiet)] (h:=?_)|refine G.draw [] (h:=?_)|refine cq hI ?_|refine cq aa ?_|refine cq hE0 ?_|refine cq ag ?_)
 (refine dP [[(bs,row [Z9 Z8 0,Z9 Z8 n,.slice p2 (0+1+((e1::B2):List Ext).length) ac] 144)],c2] ?_;refine⟨rfl,p2,ac,c2,?_,?_⟩)
 ·first|rfl|(rw[show((e1::B2):List Ext).length=(B2.length+1) by simp])
 ·first|exact ad|(simpa using ad)|(rw[show 0+1+(B2.length+1)=0+1+((e1::B2):List Ext).length by simp];exact ad)
theorem oZ (B2:List Ext) (e1:Ext) (hb:e1.1=first+m) (ab:fok n (([]:List Ext)++(e1::B2))) (hA:∀e∈(([]:List Ext):List Ext),e.1+e.2≤first) (hB:∀e∈((e1::B2):List Ext),first<e.1+e.2) (hV:Vec 141 2 p (([]:List Ext)++(e1::B2)).length cap (Af (([]:List Ext)++(e1::B2))) vc):Ct AC 154 [.pointer (some ⟨bs,0,none⟩),Z9 Z8 first,Z9 Z8 m] [[(bs,row (Bg n p (([]:List Ext)++(e1::B2)).length cap) 144)],vc] fun v H'=> v=Z9 Z8 0∧∃p' cap' vc',H'=[[(bs,row (Bg n p' ([]++[(first,m+e1.2)]++B2).length cap') 144)],vc']∧Vec 141 2 p' ([]++[(first,m+e1.2)]++B2).length cap' (Af ([]++[(first,m+e1.2)]++B2)) vc':=by
 have hI:CtQ AC 202 [.pointer (some ⟨bs,0,none⟩),Z9 Z8 first,Z9 Z8 m] [[(bs,row (Bg n p (([]:List Ext)++(e1::B2)).length cap) 144)],vc] (.bool true):=CtQ.conv (Mi bs ⟨n,(([]:List Ext)++(e1::B2))⟩ _ ⟨p,cap,vc,rfl,hV,ab,hn⟩ first m hm hfm) oA19;have aa:=Mj bs n cap first p vc ([]:List Ext) (e1::B2) ab hn hV hA hB
 have ae:=Ik ab (k:=0) oM oM;have hl:(([]:List Ext)++(e1::B2)).length=0+(B2.length+1):=by simp<;>omega
 have ah:(([]:List Ext):List Ext).length=0:=by simp
 have ai:([]++[(first,m+e1.2)]++B2).length=0+1+B2.length:=by simp<;>omega
 have aj:=ab.1;have ag:=Gy first m oM
 have al:=aj e1 oA19;rw[hl] at hI aa ae⊢;rw[ah] at aa;rw[hl] at hV;rw[ai];unfold Bg at hI aa⊢;have ak:=hV;obtain⟨_,h0|⟨vb,rest,rfl,rfl,am,an,ao⟩⟩:=hV
 ·omega
 obtain⟨k1,k2,k3⟩:=Hn (A:=([]:List Ext)) (rest:=rest) (B:=B2) (e:=e1) (i:=0) oA19;generalize aq:Af (([]:List Ext)++(e1::B2))++rest=cells at*;have hR:=fun bv=>Mk (some ⟨vb,0,none⟩) cap [] B2 [e1] (first,m+e1.2) [(vb,row cells 141)] 0 (0+(B2.length+1)) ((0:Nat):Int) (((0:Nat):Int)+1) (first:Int) ((m:Int)+(e1.2:Int)) oA19 oM oA11 oA19 oA11 oM bv 1 [] oA14 oA9
  (by rw[show[]++[e1]++B2=(([]:List Ext)++(e1::B2)) by simp];exact ak)
 simp only[AQ] at hR;refine cG func154 fun _=>?_;repeat(first|(refine st ?_;intros)|refine G.draw (id:=7) [(17,.quiet)] (h:=?_)|refine G.draw [] (h:=?_)|refine cq hI ?_|refine cq aa ?_|refine cq hE0 ?_|refine cq ag ?_)
 refine cL (hR _) ?_;rintro _ _ ⟨p2,ac,c2,rfl,ad,rfl⟩;try dsimp only[AA,AB]
 repeat(first|(refine st ?_;intros)|refine G.draw (id:=7) [(17,.quiet)] (h:=?_)|refine G.draw [] (h:=?_)|refine cq hI ?_|refine cq aa ?_|refine cq hE0 ?_|refine cq ag ?_)
 (refine dP [[(bs,row [Z9 Z8 0,Z9 Z8 n,.slice p2 (0+1+(B2:List Ext).length) ac] 144)],c2] ?_;refine⟨rfl,p2,ac,c2,?_,?_⟩)
 ·first|rfl|(rw[show(B2:List Ext).length=B2.length by simp])
 ·first|exact ad|(simpa using ad)|(rw[show 0+1+B2.length=0+1+(B2:List Ext).length by simp];exact ad)
theorem pA (A2:List Ext) (e0:Ext) (ha:e0.1+e0.2<first) (ab:fok n ((A2++[e0])++([]:List Ext))) (hA:∀e∈((A2++[e0]):List Ext),e.1+e.2≤first) (hB:∀e∈(([]:List Ext):List Ext),first<e.1+e.2) (hV:Vec 141 2 p ((A2++[e0])++([]:List Ext)).length cap (Af ((A2++[e0])++([]:List Ext))) vc):Ct AC 154 [.pointer (some ⟨bs,0,none⟩),Z9 Z8 first,Z9 Z8 m] [[(bs,row (Bg n p ((A2++[e0])++([]:List Ext)).length cap) 144)],vc] fun v H'=> v=Z9 Z8 0∧∃p' cap' vc',H'=[[(bs,row (Bg n p' ((A2++[e0])++[(first,m)]++[]).length cap') 144)],vc']∧Vec 141 2 p' ((A2++[e0])++[(first,m)]++[]).length cap' (Af ((A2++[e0])++[(first,m)]++[])) vc':=by
 have hI:CtQ AC 202 [.pointer (some ⟨bs,0,none⟩),Z9 Z8 first,Z9 Z8 m] [[(bs,row (Bg n p ((A2++[e0])++([]:List Ext)).length cap) 144)],vc] (.bool true):=CtQ.conv (Mi bs ⟨n,((A2++[e0])++([]:List Ext))⟩ _ ⟨p,cap,vc,rfl,hV,ab,hn⟩ first m hm hfm) oA19;have aa:=Mj bs n cap first p vc (A2++[e0]) ([]:List Ext) ab hn hV hA hB
 have ae:=Ik ab (k:=0) oM oM;have hl:((A2++[e0])++([]:List Ext)).length=(A2.length+1)+0:=by simp<;>omega
 have ai:((A2++[e0]):List Ext).length=(A2.length+1):=by simp
 have aj:((A2++[e0])++[(first,m)]++[]).length=(A2.length+1)+1+0:=by simp<;>omega
 have ak:=ab.1;have ag:=Gy first m oM
 have am:=ak e0 oA19;have ah:=Gy e0.1 e0.2 oM;rw[hl] at hI aa ae⊢;rw[ai] at aa;rw[hl] at hV;rw[aj];unfold Bg at hI aa⊢;have al:=hV;obtain⟨_,h0|⟨vb,rest,rfl,rfl,an,ao,aq⟩⟩:=hV
 ·omega
 obtain⟨g1,g2,g3⟩:=Hn (A:=A2) (rest:=rest) (B:=([]:List Ext)) (e:=e0) (rfl:A2.length=A2.length);rw[show A2++e0::([]:List Ext)=((A2++[e0])++([]:List Ext)) by simp] at g1 g2 g3;have ei:(((A2.length+1:Nat):Int)-1).toNat=A2.length:=oM;generalize au:Af ((A2++[e0])++([]:List Ext))++rest=cells at*;have hR:=fun bv=>Mk (some ⟨vb,0,none⟩) cap (A2++[e0]) [] [] (first,m) [(vb,row cells 141)] (A2.length+1) ((A2.length+1)+0) (((A2.length+1):Nat):Int) (((A2.length+1):Nat):Int) (first:Int) (m:Int) oA19 oM oA11 oA19 oA11 oM bv 1 [] oA14 oA9
  (by rw[show(A2++[e0])++[]++[]=((A2++[e0])++([]:List Ext)) by simp];exact al)
 simp only[AQ] at hR;refine cG func154 fun _=>?_;repeat(first|(refine st ?_;intros)|refine G.draw (id:=7) [(17,.quiet)] (h:=?_)|refine G.draw [] (h:=?_)|refine cq hI ?_|refine cq aa ?_|refine cq ah ?_|refine cq ag ?_)
 refine cL (hR _) ?_;rintro _ _ ⟨p2,ac,c2,rfl,ad,rfl⟩;try dsimp only[AA,AB]
 repeat(first|(refine st ?_;intros)|refine G.draw (id:=7) [(17,.quiet)] (h:=?_)|refine G.draw [] (h:=?_)|refine cq hI ?_|refine cq aa ?_|refine cq ah ?_|refine cq ag ?_)
 (refine dP [[(bs,row [Z9 Z8 0,Z9 Z8 n,.slice p2 ((A2.length+1)+1+([]:List Ext).length) ac] 144)],c2] ?_;refine⟨rfl,p2,ac,c2,?_,?_⟩)
 ·first|rfl|(rw[show([]:List Ext).length=0 by simp])
 ·first|exact ad|(simpa using ad)|(rw[show(A2.length+1)+1+0=(A2.length+1)+1+([]:List Ext).length by simp];exact ad)
theorem pB (A2:List Ext) (e0:Ext) (B2:List Ext) (e1:Ext) (ha:e0.1+e0.2<first) (hb:first+m<e1.1) (ab:fok n ((A2++[e0])++(e1::B2))) (hA:∀e∈((A2++[e0]):List Ext),e.1+e.2≤first) (hB:∀e∈((e1::B2):List Ext),first<e.1+e.2) (hV:Vec 141 2 p ((A2++[e0])++(e1::B2)).length cap (Af ((A2++[e0])++(e1::B2))) vc):Ct AC 154 [.pointer (some ⟨bs,0,none⟩),Z9 Z8 first,Z9 Z8 m] [[(bs,row (Bg n p ((A2++[e0])++(e1::B2)).length cap) 144)],vc] fun v H'=> v=Z9 Z8 0∧∃p' cap' vc',H'=[[(bs,row (Bg n p' ((A2++[e0])++[(first,m)]++(e1::B2)).length cap') 144)],vc']∧Vec 141 2 p' ((A2++[e0])++[(first,m)]++(e1::B2)).length cap' (Af ((A2++[e0])++[(first,m)]++(e1::B2))) vc':=by
 have hI:CtQ AC 202 [.pointer (some ⟨bs,0,none⟩),Z9 Z8 first,Z9 Z8 m] [[(bs,row (Bg n p ((A2++[e0])++(e1::B2)).length cap) 144)],vc] (.bool true):=CtQ.conv (Mi bs ⟨n,((A2++[e0])++(e1::B2))⟩ _ ⟨p,cap,vc,rfl,hV,ab,hn⟩ first m hm hfm) oA19;have aa:=Mj bs n cap first p vc (A2++[e0]) (e1::B2) ab hn hV hA hB
 have ae:=Ik ab (k:=0) oM oM;have hl:((A2++[e0])++(e1::B2)).length=(A2.length+1)+(B2.length+1):=by simp<;>omega
 have aj:((A2++[e0]):List Ext).length=(A2.length+1):=by simp
 have ak:((A2++[e0])++[(first,m)]++(e1::B2)).length=(A2.length+1)+1+(B2.length+1):=by simp<;>omega
 have ag:=ab.1;have ah:=Gy first m oM
 have am:=ag e0 oA19;have ai:=Gy e0.1 e0.2 oM;have an:=ag e1 oA19;rw[hl] at hI aa ae⊢;rw[aj] at aa;rw[hl] at hV;rw[ak];unfold Bg at hI aa⊢;have al:=hV;obtain⟨_,h0|⟨vb,rest,rfl,rfl,ao,aq,au⟩⟩:=hV
 ·omega
 obtain⟨g1,g2,g3⟩:=Hn (A:=A2) (rest:=rest) (B:=(e1::B2)) (e:=e0) (rfl:A2.length=A2.length);rw[show A2++e0::(e1::B2)=((A2++[e0])++(e1::B2)) by simp] at g1 g2 g3;have ei:(((A2.length+1:Nat):Int)-1).toNat=A2.length:=oM;obtain⟨k1,k2,k3⟩:=Hn (A:=(A2++[e0])) (rest:=rest) (B:=B2) (e:=e1) (i:=(A2.length+1)) oA19;generalize av:Af ((A2++[e0])++(e1::B2))++rest=cells at*;have hR:=fun bv=>Mk (some ⟨vb,0,none⟩) cap (A2++[e0]) (e1::B2) [] (first,m) [(vb,row cells 141)] (A2.length+1) ((A2.length+1)+(B2.length+1)) (((A2.length+1):Nat):Int) (((A2.length+1):Nat):Int) (first:Int) (m:Int) oA19 oM oA11 oA19 oA11 oM bv 1 [] oA14 oA9
  (by rw[show(A2++[e0])++[]++(e1::B2)=((A2++[e0])++(e1::B2)) by simp];exact al)
 simp only[AQ] at hR;refine cG func154 fun _=>?_;repeat(first|(refine st ?_;intros)|refine G.draw (id:=7) [(17,.quiet)] (h:=?_)|refine G.draw [] (h:=?_)|refine cq hI ?_|refine cq aa ?_|refine cq ai ?_|refine cq ah ?_)
 refine cL (hR _) ?_;rintro _ _ ⟨p2,ac,c2,rfl,ad,rfl⟩;try dsimp only[AA,AB]
 repeat(first|(refine st ?_;intros)|refine G.draw (id:=7) [(17,.quiet)] (h:=?_)|refine G.draw [] (h:=?_)|refine cq hI ?_|refine cq aa ?_|refine cq ai ?_|refine cq ah ?_)
 (refine dP [[(bs,row [Z9 Z8 0,Z9 Z8 n,.slice p2 ((A2.length+1)+1+((e1::B2):List Ext).length) ac] 144)],c2] ?_;refine⟨rfl,p2,ac,c2,?_,?_⟩)
 ·first|rfl|(rw[show((e1::B2):List Ext).length=(B2.length+1) by simp])
 ·first|exact ad|(simpa using ad)|(rw[show(A2.length+1)+1+(B2.length+1)=(A2.length+1)+1+((e1::B2):List Ext).length by simp];exact ad)
theorem pD (A2:List Ext) (e0:Ext) (B2:List Ext) (e1:Ext) (ha:e0.1+e0.2<first) (hb:e1.1=first+m) (ab:fok n ((A2++[e0])++(e1::B2))) (hA:∀e∈((A2++[e0]):List Ext),e.1+e.2≤first) (hB:∀e∈((e1::B2):List Ext),first<e.1+e.2) (hV:Vec 141 2 p ((A2++[e0])++(e1::B2)).length cap (Af ((A2++[e0])++(e1::B2))) vc):Ct AC 154 [.pointer (some ⟨bs,0,none⟩),Z9 Z8 first,Z9 Z8 m] [[(bs,row (Bg n p ((A2++[e0])++(e1::B2)).length cap) 144)],vc] fun v H'=> v=Z9 Z8 0∧∃p' cap' vc',H'=[[(bs,row (Bg n p' ((A2++[e0])++[(first,m+e1.2)]++B2).length cap') 144)],vc']∧Vec 141 2 p' ((A2++[e0])++[(first,m+e1.2)]++B2).length cap' (Af ((A2++[e0])++[(first,m+e1.2)]++B2)) vc':=by
 have hI:CtQ AC 202 [.pointer (some ⟨bs,0,none⟩),Z9 Z8 first,Z9 Z8 m] [[(bs,row (Bg n p ((A2++[e0])++(e1::B2)).length cap) 144)],vc] (.bool true):=CtQ.conv (Mi bs ⟨n,((A2++[e0])++(e1::B2))⟩ _ ⟨p,cap,vc,rfl,hV,ab,hn⟩ first m hm hfm) oA19;have aa:=Mj bs n cap first p vc (A2++[e0]) (e1::B2) ab hn hV hA hB
 have ae:=Ik ab (k:=0) oM oM;have hl:((A2++[e0])++(e1::B2)).length=(A2.length+1)+(B2.length+1):=by simp<;>omega
 have aj:((A2++[e0]):List Ext).length=(A2.length+1):=by simp
 have ak:((A2++[e0])++[(first,m+e1.2)]++B2).length=(A2.length+1)+1+B2.length:=by simp<;>omega
 have ag:=ab.1;have ah:=Gy first m oM
 have am:=ag e0 oA19;have ai:=Gy e0.1 e0.2 oM;have an:=ag e1 oA19;rw[hl] at hI aa ae⊢;rw[aj] at aa;rw[hl] at hV;rw[ak];unfold Bg at hI aa⊢;have al:=hV;obtain⟨_,h0|⟨vb,rest,rfl,rfl,ao,aq,au⟩⟩:=hV
 ·omega
 obtain⟨g1,g2,g3⟩:=Hn (A:=A2) (rest:=rest) (B:=(e1::B2)) (e:=e0) (rfl:A2.length=A2.length);rw[show A2++e0::(e1::B2)=((A2++[e0])++(e1::B2)) by simp] at g1 g2 g3;have ei:(((A2.length+1:Nat):Int)-1).toNat=A2.length:=oM;obtain⟨k1,k2,k3⟩:=Hn (A:=(A2++[e0])) (rest:=rest) (B:=B2) (e:=e1) (i:=(A2.length+1)) oA19;generalize av:Af ((A2++[e0])++(e1::B2))++rest=cells at*;have hR:=fun bv=>Mk (some ⟨vb,0,none⟩) cap (A2++[e0]) B2 [e1] (first,m+e1.2) [(vb,row cells 141)] (A2.length+1) ((A2.length+1)+(B2.length+1)) (((A2.length+1):Nat):Int) ((((A2.length+1):Nat):Int)+1) (first:Int) ((m:Int)+(e1.2:Int)) oA19 oM oA11 oA19 oA11 oM bv 1 [] oA14 oA9
  (by rw[show(A2++[e0])++[e1]++B2=((A2++[e0])++(e1::B2)) by simp];exact al)
 simp only[AQ] at hR;refine cG func154 fun _=>?_;repeat(first|(refine st ?_;intros)|refine G.draw (id:=7) [(17,.quiet)] (h:=?_)|refine G.draw [] (h:=?_)|refine cq hI ?_|refine cq aa ?_|refine cq ai ?_|refine cq ah ?_)
 refine cL (hR _) ?_;rintro _ _ ⟨p2,ac,c2,rfl,ad,rfl⟩;try dsimp only[AA,AB]
 repeat(first|(refine st ?_;intros)|refine G.draw (id:=7) [(17,.quiet)] (h:=?_)|refine G.draw [] (h:=?_)|refine cq hI ?_|refine cq aa ?_|refine cq ai ?_|refine cq ah ?_)
 (refine dP [[(bs,row [Z9 Z8 0,Z9 Z8 n,.slice p2 ((A2.length+1)+1+(B2:List Ext).length) ac] 144)],c2] ?_;refine⟨rfl,p2,ac,c2,?_,?_⟩)
 ·first|rfl|(rw[show(B2:List Ext).length=B2.length by simp])
 ·first|exact ad|(simpa using ad)|(rw[show(A2.length+1)+1+B2.length=(A2.length+1)+1+(B2:List Ext).length by simp];exact ad)
theorem pE (A2:List Ext) (e0:Ext) (ha:e0.1+e0.2=first) (ab:fok n ((A2++[e0])++([]:List Ext))) (hA:∀e∈((A2++[e0]):List Ext),e.1+e.2≤first) (hB:∀e∈(([]:List Ext):List Ext),first<e.1+e.2) (hV:Vec 141 2 p ((A2++[e0])++([]:List Ext)).length cap (Af ((A2++[e0])++([]:List Ext))) vc):Ct AC 154 [.pointer (some ⟨bs,0,none⟩),Z9 Z8 first,Z9 Z8 m] [[(bs,row (Bg n p ((A2++[e0])++([]:List Ext)).length cap) 144)],vc] fun v H'=> v=Z9 Z8 0∧∃p' cap' vc',H'=[[(bs,row (Bg n p' (A2++[(e0.1,m+e0.2)]++[]).length cap') 144)],vc']∧Vec 141 2 p' (A2++[(e0.1,m+e0.2)]++[]).length cap' (Af (A2++[(e0.1,m+e0.2)]++[])) vc':=by
 have hI:CtQ AC 202 [.pointer (some ⟨bs,0,none⟩),Z9 Z8 first,Z9 Z8 m] [[(bs,row (Bg n p ((A2++[e0])++([]:List Ext)).length cap) 144)],vc] (.bool true):=CtQ.conv (Mi bs ⟨n,((A2++[e0])++([]:List Ext))⟩ _ ⟨p,cap,vc,rfl,hV,ab,hn⟩ first m hm hfm) oA19;have aa:=Mj bs n cap first p vc (A2++[e0]) ([]:List Ext) ab hn hV hA hB
 have ae:=Ik ab (k:=0) oM oM;have hl:((A2++[e0])++([]:List Ext)).length=(A2.length+1)+0:=by simp<;>omega
 have ai:((A2++[e0]):List Ext).length=(A2.length+1):=by simp
 have aj:(A2++[(e0.1,m+e0.2)]++[]).length=A2.length+1+0:=by simp<;>omega
 have ak:=ab.1;have ag:=Gy first m oM
 have am:=ak e0 oA19;have ah:=Gy e0.1 e0.2 oM;rw[hl] at hI aa ae⊢;rw[ai] at aa;rw[hl] at hV;rw[aj];unfold Bg at hI aa⊢;have al:=hV;obtain⟨_,h0|⟨vb,rest,rfl,rfl,an,ao,aq⟩⟩:=hV
 ·omega
 obtain⟨g1,g2,g3⟩:=Hn (A:=A2) (rest:=rest) (B:=([]:List Ext)) (e:=e0) (rfl:A2.length=A2.length);rw[show A2++e0::([]:List Ext)=((A2++[e0])++([]:List Ext)) by simp] at g1 g2 g3;have ei:(((A2.length+1:Nat):Int)-1).toNat=A2.length:=oM;generalize au:Af ((A2++[e0])++([]:List Ext))++rest=cells at*;have hR:=fun bv=>Mk (some ⟨vb,0,none⟩) cap A2 [] [e0] (e0.1,m+e0.2) [(vb,row cells 141)] A2.length ((A2.length+1)+0) ((((A2.length+1):Nat):Int)-1) (((A2.length+1):Nat):Int) (e0.1:Int) ((m:Int)+(e0.2:Int)) oA19 oM oA11 oA19 oA11 oM bv 1 [] oA14 oA9
  (by rw[show A2++[e0]++[]=((A2++[e0])++([]:List Ext)) by simp];exact al)
 simp only[AQ] at hR;refine cG func154 fun _=>?_;repeat(first|(refine st ?_;intros)|refine G.draw (id:=7) [(17,.quiet)] (h:=?_)|refine G.draw [] (h:=?_)|refine cq hI ?_|refine cq aa ?_|refine cq ah ?_|refine cq ag ?_)
 refine cL (hR _) ?_;rintro _ _ ⟨p2,ac,c2,rfl,ad,rfl⟩;try dsimp only[AA,AB]
 repeat(first|(refine st ?_;intros)|refine G.draw (id:=7) [(17,.quiet)] (h:=?_)|refine G.draw [] (h:=?_)|refine cq hI ?_|refine cq aa ?_|refine cq ah ?_|refine cq ag ?_)
 (refine dP [[(bs,row [Z9 Z8 0,Z9 Z8 n,.slice p2 (A2.length+1+([]:List Ext).length) ac] 144)],c2] ?_;refine⟨rfl,p2,ac,c2,?_,?_⟩)
 ·first|rfl|(rw[show([]:List Ext).length=0 by simp])
 ·first|exact ad|(simpa using ad)|(rw[show A2.length+1+0=A2.length+1+([]:List Ext).length by simp];exact ad)
theorem pF (A2:List Ext) (e0:Ext) (B2:List Ext) (e1:Ext) (ha:e0.1+e0.2=first) (hb:first+m<e1.1) (ab:fok n ((A2++[e0])++(e1::B2))) (hA:∀e∈((A2++[e0]):List Ext),e.1+e.2≤first) (hB:∀e∈((e1::B2):List Ext),first<e.1+e.2) (hV:Vec 141 2 p ((A2++[e0])++(e1::B2)).length cap (Af ((A2++[e0])++(e1::B2))) vc):Ct AC 154 [.pointer (some ⟨bs,0,none⟩),Z9 Z8 first,Z9 Z8 m] [[(bs,row (Bg n p ((A2++[e0])++(e1::B2)).length cap) 144)],vc] fun v H'=> v=Z9 Z8 0∧∃p' cap' vc',H'=[[(bs,row (Bg n p' (A2++[(e0.1,m+e0.2)]++(e1::B2)).length cap') 144)],vc']∧Vec 141 2 p' (A2++[(e0.1,m+e0.2)]++(e1::B2)).length cap' (Af (A2++[(e0.1,m+e0.2)]++(e1::B2))) vc':=by
 have hI:CtQ AC 202 [.pointer (some ⟨bs,0,none⟩),Z9 Z8 first,Z9 Z8 m] [[(bs,row (Bg n p ((A2++[e0])++(e1::B2)).length cap) 144)],vc] (.bool true):=CtQ.conv (Mi bs ⟨n,((A2++[e0])++(e1::B2))⟩ _ ⟨p,cap,vc,rfl,hV,ab,hn⟩ first m hm hfm) oA19;have aa:=Mj bs n cap first p vc (A2++[e0]) (e1::B2) ab hn hV hA hB
 have ae:=Ik ab (k:=0) oM oM;have hl:((A2++[e0])++(e1::B2)).length=(A2.length+1)+(B2.length+1):=by simp<;>omega
 have aj:((A2++[e0]):List Ext).length=(A2.length+1):=by simp
 have ak:(A2++[(e0.1,m+e0.2)]++(e1::B2)).length=A2.length+1+(B2.length+1):=by simp<;>omega
 have ag:=ab.1;have ah:=Gy first m oM
 have am:=ag e0 oA19;have ai:=Gy e0.1 e0.2 oM;have an:=ag e1 oA19;rw[hl] at hI aa ae⊢;rw[aj] at aa;rw[hl] at hV;rw[ak];unfold Bg at hI aa⊢;have al:=hV;obtain⟨_,h0|⟨vb,rest,rfl,rfl,ao,aq,au⟩⟩:=hV
 ·omega
 obtain⟨g1,g2,g3⟩:=Hn (A:=A2) (rest:=rest) (B:=(e1::B2)) (e:=e0) (rfl:A2.length=A2.length);rw[show A2++e0::(e1::B2)=((A2++[e0])++(e1::B2)) by simp] at g1 g2 g3;have ei:(((A2.length+1:Nat):Int)-1).toNat=A2.length:=oM;obtain⟨k1,k2,k3⟩:=Hn (A:=(A2++[e0])) (rest:=rest) (B:=B2) (e:=e1) (i:=(A2.length+1)) oA19;generalize av:Af ((A2++[e0])++(e1::B2))++rest=cells at*;have hR:=fun bv=>Mk (some ⟨vb,0,none⟩) cap A2 (e1::B2) [e0] (e0.1,m+e0.2) [(vb,row cells 141)] A2.length ((A2.length+1)+(B2.length+1)) ((((A2.length+1):Nat):Int)-1) (((A2.length+1):Nat):Int) (e0.1:Int) ((m:Int)+(e0.2:Int)) oA19 oM oA11 oA19 oA11 oM bv 1 [] oA14 oA9
  (by rw[show A2++[e0]++(e1::B2)=((A2++[e0])++(e1::B2)) by simp];exact al)
 simp only[AQ] at hR;refine cG func154 fun _=>?_;repeat(first|(refine st ?_;intros)|refine G.draw (id:=7) [(17,.quiet)] (h:=?_)|refine G.draw [] (h:=?_)|refine cq hI ?_|refine cq aa ?_|refine cq ai ?_|refine cq ah ?_)
 refine cL (hR _) ?_;rintro _ _ ⟨p2,ac,c2,rfl,ad,rfl⟩;try dsimp only[AA,AB]
 repeat(first|(refine st ?_;intros)|refine G.draw (id:=7) [(17,.quiet)] (h:=?_)|refine G.draw [] (h:=?_)|refine cq hI ?_|refine cq aa ?_|refine cq ai ?_|refine cq ah ?_)
 (refine dP [[(bs,row [Z9 Z8 0,Z9 Z8 n,.slice p2 (A2.length+1+((e1::B2):List Ext).length) ac] 144)],c2] ?_;refine⟨rfl,p2,ac,c2,?_,?_⟩)
 ·first|rfl|(rw[show((e1::B2):List Ext).length=(B2.length+1) by simp])
 ·first|exact ad|(simpa using ad)|(rw[show A2.length+1+(B2.length+1)=A2.length+1+((e1::B2):List Ext).length by simp];exact ad)
theorem pG (A2:List Ext) (e0:Ext) (B2:List Ext) (e1:Ext) (ha:e0.1+e0.2=first) (hb:e1.1=first+m) (ab:fok n ((A2++[e0])++(e1::B2))) (hA:∀e∈((A2++[e0]):List Ext),e.1+e.2≤first) (hB:∀e∈((e1::B2):List Ext),first<e.1+e.2) (hV:Vec 141 2 p ((A2++[e0])++(e1::B2)).length cap (Af ((A2++[e0])++(e1::B2))) vc):Ct AC 154 [.pointer (some ⟨bs,0,none⟩),Z9 Z8 first,Z9 Z8 m] [[(bs,row (Bg n p ((A2++[e0])++(e1::B2)).length cap) 144)],vc] fun v H'=> v=Z9 Z8 0∧∃p' cap' vc',H'=[[(bs,row (Bg n p' (A2++[(e0.1,m+e1.2+e0.2)]++B2).length cap') 144)],vc']∧Vec 141 2 p' (A2++[(e0.1,m+e1.2+e0.2)]++B2).length cap' (Af (A2++[(e0.1,m+e1.2+e0.2)]++B2)) vc':=by
 have hI:CtQ AC 202 [.pointer (some ⟨bs,0,none⟩),Z9 Z8 first,Z9 Z8 m] [[(bs,row (Bg n p ((A2++[e0])++(e1::B2)).length cap) 144)],vc] (.bool true):=CtQ.conv (Mi bs ⟨n,((A2++[e0])++(e1::B2))⟩ _ ⟨p,cap,vc,rfl,hV,ab,hn⟩ first m hm hfm) oA19;have aa:=Mj bs n cap first p vc (A2++[e0]) (e1::B2) ab hn hV hA hB
 have ae:=Ik ab (k:=0) oM oM;have hl:((A2++[e0])++(e1::B2)).length=(A2.length+1)+(B2.length+1):=by simp<;>omega
 have aj:((A2++[e0]):List Ext).length=(A2.length+1):=by simp
 have ak:(A2++[(e0.1,m+e1.2+e0.2)]++B2).length=A2.length+1+B2.length:=by simp<;>omega
 have ag:=ab.1;have ah:=Gy first m oM
 have am:=ag e0 oA19;have ai:=Gy e0.1 e0.2 oM;have an:=ag e1 oA19;rw[hl] at hI aa ae⊢;rw[aj] at aa;rw[hl] at hV;rw[ak];unfold Bg at hI aa⊢;have al:=hV;obtain⟨_,h0|⟨vb,rest,rfl,rfl,ao,aq,au⟩⟩:=hV
 ·omega
 obtain⟨g1,g2,g3⟩:=Hn (A:=A2) (rest:=rest) (B:=(e1::B2)) (e:=e0) (rfl:A2.length=A2.length);rw[show A2++e0::(e1::B2)=((A2++[e0])++(e1::B2)) by simp] at g1 g2 g3;have ei:(((A2.length+1:Nat):Int)-1).toNat=A2.length:=oM;obtain⟨k1,k2,k3⟩:=Hn (A:=(A2++[e0])) (rest:=rest) (B:=B2) (e:=e1) (i:=(A2.length+1)) oA19;generalize av:Af ((A2++[e0])++(e1::B2))++rest=cells at*;have hR:=fun bv=>Mk (some ⟨vb,0,none⟩) cap A2 B2 [e0,e1] (e0.1,m+e1.2+e0.2) [(vb,row cells 141)] A2.length ((A2.length+1)+(B2.length+1)) ((((A2.length+1):Nat):Int)-1) ((((A2.length+1):Nat):Int)+1) (e0.1:Int) (((m:Int)+(e1.2:Int))+(e0.2:Int)) oA19 oM oA11 oA19 oA11 oM bv 1 [] oA14 oA9
  (by rw[show A2++[e0,e1]++B2=((A2++[e0])++(e1::B2)) by simp];exact al)
 simp only[AQ] at hR;refine cG func154 fun _=>?_;repeat(first|(refine st ?_;intros)|refine G.draw (id:=7) [(17,.quiet)] (h:=?_)|refine G.draw [] (h:=?_)|refine cq hI ?_|refine cq aa ?_|refine cq ai ?_|refine cq ah ?_)
 refine cL (hR _) ?_;rintro _ _ ⟨p2,ac,c2,rfl,ad,rfl⟩;try dsimp only[AA,AB]
 repeat(first|(refine st ?_;intros)|refine G.draw (id:=7) [(17,.quiet)] (h:=?_)|refine G.draw [] (h:=?_)|refine cq hI ?_|refine cq aa ?_|refine cq ai ?_|refine cq ah ?_)
 (refine dP [[(bs,row [Z9 Z8 0,Z9 Z8 n,.slice p2 (A2.length+1+(B2:List Ext).length) ac] 144)],c2] ?_;refine⟨rfl,p2,ac,c2,?_,?_⟩)
 ·first|rfl|(rw[show(B2:List Ext).length=B2.length by simp])
 ·first|exact ad|(simpa using ad)|(rw[show A2.length+1+B2.length=A2.length+1+(B2:List Ext).length by simp];exact ad)
end
end Go.Proofs.YtaofijjjheiknaaGreat
