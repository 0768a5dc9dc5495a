/-
  What the tables of the program say of its types and functions, as classes. No condition.
-/
import Derived.Test.YtigenhcekepeaaaProg
import Derived.Test.YtigenhcekepeaaaSl3
namespace Go.Proofs.Ytigenhcekepeaaa
open Go.SL

instance : Cell1 Try.prog 1 := ⟨Try.isAgg1, Try.sizeOf1⟩
instance : ZeroV Try.prog 1 [.nilFunc] := ⟨_, rfl, Try.zeroValue1⟩
instance : ConcT Try.prog 1 := ⟨by kernel_rfl⟩
instance : Cell1 Try.prog 2 := ⟨Try.isAgg2, Try.sizeOf2⟩
instance : IntT Try.prog 2 .i64 := ⟨Try.underlying2⟩
instance : ZeroV Try.prog 2 [.int .i64 0] := ⟨_, rfl, Try.zeroValue2⟩
instance : ConcT Try.prog 2 := ⟨by kernel_rfl⟩
instance : Cell1 Try.prog 3 := ⟨Try.isAgg3, Try.sizeOf3⟩
instance : IntT Try.prog 3 .i64 := ⟨Try.underlying3⟩
instance : ZeroV Try.prog 3 [.int .i64 0] := ⟨_, rfl, Try.zeroValue3⟩
instance : ConcT Try.prog 3 := ⟨by kernel_rfl⟩
instance : Cell1 Try.prog 4 := ⟨Try.isAgg4, Try.sizeOf4⟩
instance : BoolT Try.prog 4 := ⟨Try.underlying4⟩
instance : ZeroV Try.prog 4 [.bool false] := ⟨_, rfl, Try.zeroValue4⟩
instance : ConcT Try.prog 4 := ⟨by kernel_rfl⟩
instance : Cell1 Try.prog 5 := ⟨Try.isAgg5, Try.sizeOf5⟩
instance : IntT Try.prog 5 .u8 := ⟨Try.underlying5⟩
instance : ZeroV Try.prog 5 [.int .u8 0] := ⟨_, rfl, Try.zeroValue5⟩
instance : ConcT Try.prog 5 := ⟨by kernel_rfl⟩
instance : Cell1 Try.prog 6 := ⟨Try.isAgg6, Try.sizeOf6⟩
instance : IntT Try.prog 6 .u8 := ⟨Try.underlying6⟩
instance : ZeroV Try.prog 6 [.int .u8 0] := ⟨_, rfl, Try.zeroValue6⟩
instance : ConcT Try.prog 6 := ⟨by kernel_rfl⟩
instance : AggN Try.prog 7 4 := ⟨Try.isAgg7, Try.sizeOf7⟩
instance : FieldOff Try.prog 7 0 0 := FieldOff.of (m := 0) _ _ Try.underlying7 rfl rfl Try.sizeOf2
instance : Field1 Try.prog 7 0 0 := Field1.of _ _ Try.underlying7 rfl rfl Try.isAgg2
instance : FieldOff Try.prog 7 1 1 := FieldOff.of (m := 0) _ _ Try.underlying7 rfl rfl Try.sizeOf3
instance : Field1 Try.prog 7 1 1 := Field1.of _ _ Try.underlying7 rfl rfl Try.isAgg3
instance : FieldOff Try.prog 7 2 2 := FieldOff.of (m := 0) _ _ Try.underlying7 rfl rfl Try.sizeOf4
instance : Field1 Try.prog 7 2 2 := Field1.of _ _ Try.underlying7 rfl rfl Try.isAgg4
instance : FieldOff Try.prog 7 3 3 := FieldOff.of (m := 0) _ _ Try.underlying7 rfl rfl Try.sizeOf6
instance : Field1 Try.prog 7 3 3 := Field1.of _ _ Try.underlying7 rfl rfl Try.isAgg6
instance : BuildT Try.prog 7 (fun i => ([(0, 1), (1, 1), (2, 1), (3, 1)] : List (Nat × Nat))[i]?) [.int .i64 0, .int .i64 0, .bool false, .int .u8 0] := BuildT.ofS (fun parts => by kernel_rfl)
instance : ZeroV Try.prog 7 [.int .i64 0, .int .i64 0, .bool false, .int .u8 0] := ⟨_, rfl, Try.zeroValue7⟩
instance : ConcT Try.prog 7 := ⟨by kernel_rfl⟩
instance : AggN Try.prog 8 4 := ⟨Try.isAgg8, Try.sizeOf8⟩
instance : FieldOff Try.prog 8 0 0 := FieldOff.of (m := 0) _ _ Try.underlying8 rfl rfl Try.sizeOf2
instance : Field1 Try.prog 8 0 0 := Field1.of _ _ Try.underlying8 rfl rfl Try.isAgg2
instance : FieldOff Try.prog 8 1 1 := FieldOff.of (m := 0) _ _ Try.underlying8 rfl rfl Try.sizeOf3
instance : Field1 Try.prog 8 1 1 := Field1.of _ _ Try.underlying8 rfl rfl Try.isAgg3
instance : FieldOff Try.prog 8 2 2 := FieldOff.of (m := 0) _ _ Try.underlying8 rfl rfl Try.sizeOf4
instance : Field1 Try.prog 8 2 2 := Field1.of _ _ Try.underlying8 rfl rfl Try.isAgg4
instance : FieldOff Try.prog 8 3 3 := FieldOff.of (m := 0) _ _ Try.underlying8 rfl rfl Try.sizeOf6
instance : Field1 Try.prog 8 3 3 := Field1.of _ _ Try.underlying8 rfl rfl Try.isAgg6
instance : BuildT Try.prog 8 (fun i => ([(0, 1), (1, 1), (2, 1), (3, 1)] : List (Nat × Nat))[i]?) [.int .i64 0, .int .i64 0, .bool false, .int .u8 0] := BuildT.ofS (fun parts => by kernel_rfl)
instance : ZeroV Try.prog 8 [.int .i64 0, .int .i64 0, .bool false, .int .u8 0] := ⟨_, rfl, Try.zeroValue8⟩
instance : ConcT Try.prog 8 := ⟨by kernel_rfl⟩
instance : Cell1 Try.prog 9 := ⟨Try.isAgg9, Try.sizeOf9⟩
instance : ZeroV Try.prog 9 [.string ByteArray.empty] := ⟨_, rfl, Try.zeroValue9⟩
instance : ConcT Try.prog 9 := ⟨by kernel_rfl⟩
instance : Cell1 Try.prog 10 := ⟨Try.isAgg10, Try.sizeOf10⟩
instance : ZeroV Try.prog 10 [.string ByteArray.empty] := ⟨_, rfl, Try.zeroValue10⟩
instance : ConcT Try.prog 10 := ⟨by kernel_rfl⟩
instance : Cell1 Try.prog 11 := ⟨Try.isAgg11, Try.sizeOf11⟩
instance : ZeroV Try.prog 11 [.string ByteArray.empty] := ⟨_, rfl, Try.zeroValue11⟩
instance : ConcT Try.prog 11 := ⟨by kernel_rfl⟩
instance : Cell1 Try.prog 12 := ⟨Try.isAgg12, Try.sizeOf12⟩
instance : IntT Try.prog 12 .u64 := ⟨Try.underlying12⟩
instance : ZeroV Try.prog 12 [.int .u64 0] := ⟨_, rfl, Try.zeroValue12⟩
instance : ConcT Try.prog 12 := ⟨by kernel_rfl⟩
instance : AggN Try.prog 13 2 := ⟨Try.isAgg13, Try.sizeOf13⟩
instance : FieldOff Try.prog 13 0 0 := FieldOff.of (m := 0) _ _ Try.underlying13 rfl rfl Try.sizeOf9
instance : Field1 Try.prog 13 0 0 := Field1.of _ _ Try.underlying13 rfl rfl Try.isAgg9
instance : FieldOff Try.prog 13 1 1 := FieldOff.of (m := 0) _ _ Try.underlying13 rfl rfl Try.sizeOf12
instance : Field1 Try.prog 13 1 1 := Field1.of _ _ Try.underlying13 rfl rfl Try.isAgg12
instance : BuildT Try.prog 13 (fun i => ([(0, 1), (1, 1)] : List (Nat × Nat))[i]?) [.string ByteArray.empty, .int .u64 0] := BuildT.ofS (fun parts => by kernel_rfl)
instance : ZeroV Try.prog 13 [.string ByteArray.empty, .int .u64 0] := ⟨_, rfl, Try.zeroValue13⟩
instance : ConcT Try.prog 13 := ⟨by kernel_rfl⟩
instance : AggN Try.prog 14 2 := ⟨Try.isAgg14, Try.sizeOf14⟩
instance : FieldOff Try.prog 14 0 0 := FieldOff.of (m := 0) _ _ Try.underlying14 rfl rfl Try.sizeOf9
instance : Field1 Try.prog 14 0 0 := Field1.of _ _ Try.underlying14 rfl rfl Try.isAgg9
instance : FieldOff Try.prog 14 1 1 := FieldOff.of (m := 0) _ _ Try.underlying14 rfl rfl Try.sizeOf12
instance : Field1 Try.prog 14 1 1 := Field1.of _ _ Try.underlying14 rfl rfl Try.isAgg12
instance : BuildT Try.prog 14 (fun i => ([(0, 1), (1, 1)] : List (Nat × Nat))[i]?) [.string ByteArray.empty, .int .u64 0] := BuildT.ofS (fun parts => by kernel_rfl)
instance : ZeroV Try.prog 14 [.string ByteArray.empty, .int .u64 0] := ⟨_, rfl, Try.zeroValue14⟩
instance : ConcT Try.prog 14 := ⟨by kernel_rfl⟩
instance : Cell1 Try.prog 15 := ⟨Try.isAgg15, Try.sizeOf15⟩
instance : PtrT Try.prog 15 := ⟨by kernel_rfl⟩
instance : ZeroV Try.prog 15 [.pointer none] := ⟨_, rfl, Try.zeroValue15⟩
instance : ConcT Try.prog 15 := ⟨by kernel_rfl⟩
instance : Cell1 Try.prog 16 := ⟨Try.isAgg16, Try.sizeOf16⟩
instance : PtrT Try.prog 16 := ⟨by kernel_rfl⟩
instance : ZeroV Try.prog 16 [.pointer none] := ⟨_, rfl, Try.zeroValue16⟩
instance : ConcT Try.prog 16 := ⟨by kernel_rfl⟩
instance : Cell1 Try.prog 17 := ⟨Try.isAgg17, Try.sizeOf17⟩
instance : PtrT Try.prog 17 := ⟨by kernel_rfl⟩
instance : ZeroV Try.prog 17 [.pointer none] := ⟨_, rfl, Try.zeroValue17⟩
instance : ConcT Try.prog 17 := ⟨by kernel_rfl⟩
instance : AggN Try.prog 18 1 := ⟨Try.isAgg18, Try.sizeOf18⟩
instance : FieldOff Try.prog 18 0 0 := FieldOff.of (m := 0) _ _ Try.underlying18 rfl rfl Try.sizeOf17
instance : Field1 Try.prog 18 0 0 := Field1.of _ _ Try.underlying18 rfl rfl Try.isAgg17
instance : BuildT Try.prog 18 (fun i => ([(0, 1)] : List (Nat × Nat))[i]?) [.pointer none] := BuildT.ofS (fun parts => by kernel_rfl)
instance : ZeroV Try.prog 18 [.pointer none] := ⟨_, rfl, Try.zeroValue18⟩
instance : ConcT Try.prog 18 := ⟨by kernel_rfl⟩
instance : AggN Try.prog 19 1 := ⟨Try.isAgg19, Try.sizeOf19⟩
instance : FieldOff Try.prog 19 0 0 := FieldOff.of (m := 0) _ _ Try.underlying19 rfl rfl Try.sizeOf17
instance : Field1 Try.prog 19 0 0 := Field1.of _ _ Try.underlying19 rfl rfl Try.isAgg17
instance : BuildT Try.prog 19 (fun i => ([(0, 1)] : List (Nat × Nat))[i]?) [.pointer none] := BuildT.ofS (fun parts => by kernel_rfl)
instance : ZeroV Try.prog 19 [.pointer none] := ⟨_, rfl, Try.zeroValue19⟩
instance : ConcT Try.prog 19 := ⟨by kernel_rfl⟩
instance : Cell1 Try.prog 20 := ⟨Try.isAgg20, Try.sizeOf20⟩
instance : ZeroV Try.prog 20 [.nilIface] := ⟨_, rfl, Try.zeroValue20⟩
instance : Cell1 Try.prog 21 := ⟨Try.isAgg21, Try.sizeOf21⟩
instance : IntT Try.prog 21 .i32 := ⟨Try.underlying21⟩
instance : ZeroV Try.prog 21 [.int .i32 0] := ⟨_, rfl, Try.zeroValue21⟩
instance : ConcT Try.prog 21 := ⟨by kernel_rfl⟩
instance : AggN Try.prog 22 5 := ⟨Try.isAgg22, Try.sizeOf22⟩
instance : ArrT Try.prog 22 5 2 1 := ⟨Try.underlying22, Try.sizeOf2⟩
instance : BuildT Try.prog 22 (fun i => some (i * 1, 1)) [.int .i64 0, .int .i64 0, .int .i64 0, .int .i64 0, .int .i64 0] := ⟨fun parts => by kernel_rfl⟩
instance : Eq5 Try.prog 22 := Eq5.of Try.underlying22 Try.underlying2 Try.type2 Try.isAgg2 (by kernel_rfl) Try.eqGuardType22
instance : ZeroV Try.prog 22 [.int .i64 0, .int .i64 0, .int .i64 0, .int .i64 0, .int .i64 0] := ⟨_, rfl, Try.zeroValue22⟩
instance : ConcT Try.prog 22 := ⟨by kernel_rfl⟩
instance : AggN Try.prog 23 5 := ⟨Try.isAgg23, Try.sizeOf23⟩
instance : ArrT Try.prog 23 5 2 1 := ⟨Try.underlying23, Try.sizeOf2⟩
instance : BuildT Try.prog 23 (fun i => some (i * 1, 1)) [.int .i64 0, .int .i64 0, .int .i64 0, .int .i64 0, .int .i64 0] := ⟨fun parts => by kernel_rfl⟩
instance : Eq5 Try.prog 23 := Eq5.of Try.underlying23 Try.underlying2 Try.type2 Try.isAgg2 (by kernel_rfl) Try.eqGuardType23
instance : ZeroV Try.prog 23 [.int .i64 0, .int .i64 0, .int .i64 0, .int .i64 0, .int .i64 0] := ⟨_, rfl, Try.zeroValue23⟩
instance : ElemT Try.prog 23 5 40 [.int .i64 0, .int .i64 0, .int .i64 0, .int .i64 0, .int .i64 0] := ⟨by kernel_rfl⟩
instance : ConcT Try.prog 23 := ⟨by kernel_rfl⟩
instance : AggN Try.prog 24 5 := ⟨Try.isAgg24, Try.sizeOf24⟩
instance : ArrT Try.prog 24 5 3 1 := ⟨Try.underlying24, Try.sizeOf3⟩
instance : BuildT Try.prog 24 (fun i => some (i * 1, 1)) [.int .i64 0, .int .i64 0, .int .i64 0, .int .i64 0, .int .i64 0] := ⟨fun parts => by kernel_rfl⟩
instance : Eq5 Try.prog 24 := Eq5.of Try.underlying24 Try.underlying3 Try.type3 Try.isAgg3 (by kernel_rfl) Try.eqGuardType24
instance : ZeroV Try.prog 24 [.int .i64 0, .int .i64 0, .int .i64 0, .int .i64 0, .int .i64 0] := ⟨_, rfl, Try.zeroValue24⟩
instance : ConcT Try.prog 24 := ⟨by kernel_rfl⟩
instance : AggN Try.prog 25 5 := ⟨Try.isAgg25, Try.sizeOf25⟩
instance : ArrT Try.prog 25 5 3 1 := ⟨Try.underlying25, Try.sizeOf3⟩
instance : BuildT Try.prog 25 (fun i => some (i * 1, 1)) [.int .i64 0, .int .i64 0, .int .i64 0, .int .i64 0, .int .i64 0] := ⟨fun parts => by kernel_rfl⟩
instance : Eq5 Try.prog 25 := Eq5.of Try.underlying25 Try.underlying3 Try.type3 Try.isAgg3 (by kernel_rfl) Try.eqGuardType25
instance : ZeroV Try.prog 25 [.int .i64 0, .int .i64 0, .int .i64 0, .int .i64 0, .int .i64 0] := ⟨_, rfl, Try.zeroValue25⟩
instance : ConcT Try.prog 25 := ⟨by kernel_rfl⟩
instance : Cell1 Try.prog 26 := ⟨Try.isAgg26, Try.sizeOf26⟩
instance : ZeroV Try.prog 26 [.nilFunc] := ⟨_, rfl, Try.zeroValue26⟩
instance : ConcT Try.prog 26 := ⟨by kernel_rfl⟩
instance : Cell1 Try.prog 27 := ⟨Try.isAgg27, Try.sizeOf27⟩
instance : ZeroV Try.prog 27 [.nilFunc] := ⟨_, rfl, Try.zeroValue27⟩
instance : ConcT Try.prog 27 := ⟨by kernel_rfl⟩
instance : Cell1 Try.prog 28 := ⟨Try.isAgg28, Try.sizeOf28⟩
instance : ZeroV Try.prog 28 [.nilFunc] := ⟨_, rfl, Try.zeroValue28⟩
instance : ConcT Try.prog 28 := ⟨by kernel_rfl⟩
instance : Cell1 Try.prog 29 := ⟨Try.isAgg29, Try.sizeOf29⟩
instance : ZeroV Try.prog 29 [.nilFunc] := ⟨_, rfl, Try.zeroValue29⟩
instance : ConcT Try.prog 29 := ⟨by kernel_rfl⟩
instance : AggN Try.prog 30 5 := ⟨Try.isAgg30, Try.sizeOf30⟩
instance : ArrT Try.prog 30 5 3 1 := ⟨Try.underlying30, Try.sizeOf3⟩
instance : BuildT Try.prog 30 (fun i => some (i * 1, 1)) [.int .i64 0, .int .i64 0, .int .i64 0, .int .i64 0, .int .i64 0] := ⟨fun parts => by kernel_rfl⟩
instance : Eq5 Try.prog 30 := Eq5.of Try.underlying30 Try.underlying3 Try.type3 Try.isAgg3 (by kernel_rfl) Try.eqGuardType30
instance : ZeroV Try.prog 30 [.int .i64 0, .int .i64 0, .int .i64 0, .int .i64 0, .int .i64 0] := ⟨_, rfl, Try.zeroValue30⟩
instance : ConcT Try.prog 30 := ⟨by kernel_rfl⟩
instance : Cell1 Try.prog 31 := ⟨Try.isAgg31, Try.sizeOf31⟩
instance : ZeroV Try.prog 31 [.nilFunc] := ⟨_, rfl, Try.zeroValue31⟩
instance : ConcT Try.prog 31 := ⟨by kernel_rfl⟩
instance : Cell1 Try.prog 32 := ⟨Try.isAgg32, Try.sizeOf32⟩
instance : ZeroV Try.prog 32 [.nilFunc] := ⟨_, rfl, Try.zeroValue32⟩
instance : ConcT Try.prog 32 := ⟨by kernel_rfl⟩
instance : Cell1 Try.prog 33 := ⟨Try.isAgg33, Try.sizeOf33⟩
instance : ZeroV Try.prog 33 [.nilFunc] := ⟨_, rfl, Try.zeroValue33⟩
instance : ConcT Try.prog 33 := ⟨by kernel_rfl⟩
instance : Cell1 Try.prog 34 := ⟨Try.isAgg34, Try.sizeOf34⟩
instance : ZeroV Try.prog 34 [.nilFunc] := ⟨_, rfl, Try.zeroValue34⟩
instance : ConcT Try.prog 34 := ⟨by kernel_rfl⟩
instance : Cell1 Try.prog 35 := ⟨Try.isAgg35, Try.sizeOf35⟩
instance : SliceT Try.prog 35 23 5 := ⟨Try.underlying35, Try.sizeOf23⟩
instance : ZeroV Try.prog 35 [.slice none 0 0] := ⟨_, rfl, Try.zeroValue35⟩
instance : ConcT Try.prog 35 := ⟨by kernel_rfl⟩
instance : Cell1 Try.prog 36 := ⟨Try.isAgg36, Try.sizeOf36⟩
instance : ZeroV Try.prog 36 [.nilFunc] := ⟨_, rfl, Try.zeroValue36⟩
instance : ConcT Try.prog 36 := ⟨by kernel_rfl⟩
instance : Cell1 Try.prog 37 := ⟨Try.isAgg37, Try.sizeOf37⟩
instance : ZeroV Try.prog 37 [.nilFunc] := ⟨_, rfl, Try.zeroValue37⟩
instance : ConcT Try.prog 37 := ⟨by kernel_rfl⟩
instance : Cell1 Try.prog 38 := ⟨Try.isAgg38, Try.sizeOf38⟩
instance : ZeroV Try.prog 38 [.nilFunc] := ⟨_, rfl, Try.zeroValue38⟩
instance : ConcT Try.prog 38 := ⟨by kernel_rfl⟩
instance : AggN Try.prog 39 15 := ⟨Try.isAgg39, Try.sizeOf39⟩
instance : ArrT Try.prog 39 3 23 5 := ⟨Try.underlying39, Try.sizeOf23⟩
instance : BuildT Try.prog 39 (fun i => some (i * 5, 5)) [.int .i64 0, .int .i64 0, .int .i64 0, .int .i64 0, .int .i64 0, .int .i64 0, .int .i64 0, .int .i64 0, .int .i64 0, .int .i64 0, .int .i64 0, .int .i64 0, .int .i64 0, .int .i64 0, .int .i64 0] := ⟨fun parts => by kernel_rfl⟩
instance : ZeroV Try.prog 39 [.int .i64 0, .int .i64 0, .int .i64 0, .int .i64 0, .int .i64 0, .int .i64 0, .int .i64 0, .int .i64 0, .int .i64 0, .int .i64 0, .int .i64 0, .int .i64 0, .int .i64 0, .int .i64 0, .int .i64 0] := ⟨_, rfl, Try.zeroValue39⟩
instance : ConcT Try.prog 39 := ⟨by kernel_rfl⟩
instance : Cell1 Try.prog 40 := ⟨Try.isAgg40, Try.sizeOf40⟩
instance : ZeroV Try.prog 40 [.nilFunc] := ⟨_, rfl, Try.zeroValue40⟩
instance : ConcT Try.prog 40 := ⟨by kernel_rfl⟩
instance : AggN Try.prog 41 6 := ⟨Try.isAgg41, Try.sizeOf41⟩
instance : ArrT Try.prog 41 6 4 1 := ⟨Try.underlying41, Try.sizeOf4⟩
instance : BuildT Try.prog 41 (fun i => some (i * 1, 1)) [.bool false, .bool false, .bool false, .bool false, .bool false, .bool false] := ⟨fun parts => by kernel_rfl⟩
instance : ZeroV Try.prog 41 [.bool false, .bool false, .bool false, .bool false, .bool false, .bool false] := ⟨_, rfl, Try.zeroValue41⟩
instance : ConcT Try.prog 41 := ⟨by kernel_rfl⟩
instance : Cell1 Try.prog 42 := ⟨Try.isAgg42, Try.sizeOf42⟩
instance : ZeroV Try.prog 42 [.nilFunc] := ⟨_, rfl, Try.zeroValue42⟩
instance : ConcT Try.prog 42 := ⟨by kernel_rfl⟩
instance : Cell1 Try.prog 43 := ⟨Try.isAgg43, Try.sizeOf43⟩
instance : ZeroV Try.prog 43 [.nilFunc] := ⟨_, rfl, Try.zeroValue43⟩
instance : ConcT Try.prog 43 := ⟨by kernel_rfl⟩
instance : Cell1 Try.prog 44 := ⟨Try.isAgg44, Try.sizeOf44⟩
instance : ZeroV Try.prog 44 [.nilFunc] := ⟨_, rfl, Try.zeroValue44⟩
instance : ConcT Try.prog 44 := ⟨by kernel_rfl⟩
instance : Cell1 Try.prog 45 := ⟨Try.isAgg45, Try.sizeOf45⟩
instance : ZeroV Try.prog 45 [.nilFunc] := ⟨_, rfl, Try.zeroValue45⟩
instance : ConcT Try.prog 45 := ⟨by kernel_rfl⟩
instance : Cell1 Try.prog 46 := ⟨Try.isAgg46, Try.sizeOf46⟩
instance : ZeroV Try.prog 46 [.nilFunc] := ⟨_, rfl, Try.zeroValue46⟩
instance : ConcT Try.prog 46 := ⟨by kernel_rfl⟩
instance : Cell1 Try.prog 47 := ⟨Try.isAgg47, Try.sizeOf47⟩
instance : ZeroV Try.prog 47 [.nilFunc] := ⟨_, rfl, Try.zeroValue47⟩
instance : ConcT Try.prog 47 := ⟨by kernel_rfl⟩
instance : AggN Try.prog 48 4 := ⟨Try.isAgg48, Try.sizeOf48⟩
instance : FieldOff Try.prog 48 0 0 := FieldOff.of (m := 0) _ _ Try.underlying48 rfl rfl Try.sizeOf17
instance : Field1 Try.prog 48 0 0 := Field1.of _ _ Try.underlying48 rfl rfl Try.isAgg17
instance : FieldOff Try.prog 48 1 1 := FieldOff.of (m := 0) _ _ Try.underlying48 rfl rfl Try.sizeOf17
instance : Field1 Try.prog 48 1 1 := Field1.of _ _ Try.underlying48 rfl rfl Try.isAgg17
instance : FieldOff Try.prog 48 2 2 := FieldOff.of (m := 0) _ _ Try.underlying48 rfl rfl Try.sizeOf17
instance : Field1 Try.prog 48 2 2 := Field1.of _ _ Try.underlying48 rfl rfl Try.isAgg17
instance : FieldOff Try.prog 48 3 3 := FieldOff.of (m := 0) _ _ Try.underlying48 rfl rfl Try.sizeOf9
instance : Field1 Try.prog 48 3 3 := Field1.of _ _ Try.underlying48 rfl rfl Try.isAgg9
instance : ZeroV Try.prog 48 [.pointer none, .pointer none, .pointer none, .string ByteArray.empty] := ⟨_, rfl, Try.zeroValue48⟩
instance : ConcT Try.prog 48 := ⟨by kernel_rfl⟩
instance : AggN Try.prog 49 4 := ⟨Try.isAgg49, Try.sizeOf49⟩
instance : FieldOff Try.prog 49 0 0 := FieldOff.of (m := 0) _ _ Try.underlying49 rfl rfl Try.sizeOf17
instance : Field1 Try.prog 49 0 0 := Field1.of _ _ Try.underlying49 rfl rfl Try.isAgg17
instance : FieldOff Try.prog 49 1 1 := FieldOff.of (m := 0) _ _ Try.underlying49 rfl rfl Try.sizeOf17
instance : Field1 Try.prog 49 1 1 := Field1.of _ _ Try.underlying49 rfl rfl Try.isAgg17
instance : FieldOff Try.prog 49 2 2 := FieldOff.of (m := 0) _ _ Try.underlying49 rfl rfl Try.sizeOf17
instance : Field1 Try.prog 49 2 2 := Field1.of _ _ Try.underlying49 rfl rfl Try.isAgg17
instance : FieldOff Try.prog 49 3 3 := FieldOff.of (m := 0) _ _ Try.underlying49 rfl rfl Try.sizeOf9
instance : Field1 Try.prog 49 3 3 := Field1.of _ _ Try.underlying49 rfl rfl Try.isAgg9
instance : ZeroV Try.prog 49 [.pointer none, .pointer none, .pointer none, .string ByteArray.empty] := ⟨_, rfl, Try.zeroValue49⟩
instance : ConcT Try.prog 49 := ⟨by kernel_rfl⟩
instance : AggN Try.prog 50 0 := ⟨Try.isAgg50, Try.sizeOf50⟩
instance : ArrT Try.prog 50 0 16 1 := ⟨Try.underlying50, Try.sizeOf16⟩
instance : ConcT Try.prog 50 := ⟨by kernel_rfl⟩
instance : AggN Try.prog 51 0 := ⟨Try.isAgg51, Try.sizeOf51⟩
instance : ConcT Try.prog 51 := ⟨by kernel_rfl⟩
instance : AggN Try.prog 52 0 := ⟨Try.isAgg52, Try.sizeOf52⟩
instance : ConcT Try.prog 52 := ⟨by kernel_rfl⟩
instance : Cell1 Try.prog 53 := ⟨Try.isAgg53, Try.sizeOf53⟩
instance : ZeroV Try.prog 53 [.nilFunc] := ⟨_, rfl, Try.zeroValue53⟩
instance : ConcT Try.prog 53 := ⟨by kernel_rfl⟩
instance : Cell1 Try.prog 54 := ⟨Try.isAgg54, Try.sizeOf54⟩
instance : IntT Try.prog 54 .u32 := ⟨Try.underlying54⟩
instance : ZeroV Try.prog 54 [.int .u32 0] := ⟨_, rfl, Try.zeroValue54⟩
instance : ConcT Try.prog 54 := ⟨by kernel_rfl⟩
instance : Cell1 Try.prog 55 := ⟨Try.isAgg55, Try.sizeOf55⟩
instance : IntT Try.prog 55 .u8 := ⟨Try.underlying55⟩
instance : ZeroV Try.prog 55 [.int .u8 0] := ⟨_, rfl, Try.zeroValue55⟩
instance : ConcT Try.prog 55 := ⟨by kernel_rfl⟩
instance : Cell1 Try.prog 56 := ⟨Try.isAgg56, Try.sizeOf56⟩
instance : IntT Try.prog 56 .u8 := ⟨Try.underlying56⟩
instance : ZeroV Try.prog 56 [.int .u8 0] := ⟨_, rfl, Try.zeroValue56⟩
instance : ConcT Try.prog 56 := ⟨by kernel_rfl⟩
instance : Cell1 Try.prog 57 := ⟨Try.isAgg57, Try.sizeOf57⟩
instance : ZeroV Try.prog 57 [.nilFunc] := ⟨_, rfl, Try.zeroValue57⟩
instance : ConcT Try.prog 57 := ⟨by kernel_rfl⟩
instance : Cell1 Try.prog 58 := ⟨Try.isAgg58, Try.sizeOf58⟩
instance : PtrT Try.prog 58 := ⟨by kernel_rfl⟩
instance : ZeroV Try.prog 58 [.pointer none] := ⟨_, rfl, Try.zeroValue58⟩
instance : ConcT Try.prog 58 := ⟨by kernel_rfl⟩
instance : Cell1 Try.prog 59 := ⟨Try.isAgg59, Try.sizeOf59⟩
instance : IntT Try.prog 59 .i32 := ⟨Try.underlying59⟩
instance : ZeroV Try.prog 59 [.int .i32 0] := ⟨_, rfl, Try.zeroValue59⟩
instance : ConcT Try.prog 59 := ⟨by kernel_rfl⟩
instance : Cell1 Try.prog 60 := ⟨Try.isAgg60, Try.sizeOf60⟩
instance : IntT Try.prog 60 .i32 := ⟨Try.underlying60⟩
instance : ZeroV Try.prog 60 [.int .i32 0] := ⟨_, rfl, Try.zeroValue60⟩
instance : ConcT Try.prog 60 := ⟨by kernel_rfl⟩
instance : AggN Try.prog 61 11 := ⟨Try.isAgg61, Try.sizeOf61⟩
instance : FieldOff Try.prog 61 0 0 := FieldOff.of (m := 0) _ _ Try.underlying61 rfl rfl Try.sizeOf12
instance : Field1 Try.prog 61 0 0 := Field1.of _ _ Try.underlying61 rfl rfl Try.isAgg12
instance : FieldOff Try.prog 61 1 1 := FieldOff.of (m := 0) _ _ Try.underlying61 rfl rfl Try.sizeOf12
instance : Field1 Try.prog 61 1 1 := Field1.of _ _ Try.underlying61 rfl rfl Try.isAgg12
instance : FieldOff Try.prog 61 2 2 := FieldOff.of (m := 0) _ _ Try.underlying61 rfl rfl Try.sizeOf54
instance : Field1 Try.prog 61 2 2 := Field1.of _ _ Try.underlying61 rfl rfl Try.isAgg54
instance : FieldOff Try.prog 61 3 3 := FieldOff.of (m := 0) _ _ Try.underlying61 rfl rfl Try.sizeOf55
instance : Field1 Try.prog 61 3 3 := Field1.of _ _ Try.underlying61 rfl rfl Try.isAgg55
instance : FieldOff Try.prog 61 4 4 := FieldOff.of (m := 0) _ _ Try.underlying61 rfl rfl Try.sizeOf5
instance : Field1 Try.prog 61 4 4 := Field1.of _ _ Try.underlying61 rfl rfl Try.isAgg5
instance : FieldOff Try.prog 61 5 5 := FieldOff.of (m := 0) _ _ Try.underlying61 rfl rfl Try.sizeOf5
instance : Field1 Try.prog 61 5 5 := Field1.of _ _ Try.underlying61 rfl rfl Try.isAgg5
instance : FieldOff Try.prog 61 6 6 := FieldOff.of (m := 0) _ _ Try.underlying61 rfl rfl Try.sizeOf56
instance : Field1 Try.prog 61 6 6 := Field1.of _ _ Try.underlying61 rfl rfl Try.isAgg56
instance : FieldOff Try.prog 61 7 7 := FieldOff.of (m := 0) _ _ Try.underlying61 rfl rfl Try.sizeOf57
instance : Field1 Try.prog 61 7 7 := Field1.of _ _ Try.underlying61 rfl rfl Try.isAgg57
instance : FieldOff Try.prog 61 8 8 := FieldOff.of (m := 0) _ _ Try.underlying61 rfl rfl Try.sizeOf58
instance : Field1 Try.prog 61 8 8 := Field1.of _ _ Try.underlying61 rfl rfl Try.isAgg58
instance : FieldOff Try.prog 61 9 9 := FieldOff.of (m := 0) _ _ Try.underlying61 rfl rfl Try.sizeOf59
instance : Field1 Try.prog 61 9 9 := Field1.of _ _ Try.underlying61 rfl rfl Try.isAgg59
instance : FieldOff Try.prog 61 10 10 := FieldOff.of (m := 0) _ _ Try.underlying61 rfl rfl Try.sizeOf60
instance : Field1 Try.prog 61 10 10 := Field1.of _ _ Try.underlying61 rfl rfl Try.isAgg60
instance : ZeroV Try.prog 61 [.int .u64 0, .int .u64 0, .int .u32 0, .int .u8 0, .int .u8 0, .int .u8 0, .int .u8 0, .nilFunc, .pointer none, .int .i32 0, .int .i32 0] := ⟨_, rfl, Try.zeroValue61⟩
instance : ConcT Try.prog 61 := ⟨by kernel_rfl⟩
instance : AggN Try.prog 62 11 := ⟨Try.isAgg62, Try.sizeOf62⟩
instance : FieldOff Try.prog 62 0 0 := FieldOff.of (m := 0) _ _ Try.underlying62 rfl rfl Try.sizeOf12
instance : Field1 Try.prog 62 0 0 := Field1.of _ _ Try.underlying62 rfl rfl Try.isAgg12
instance : FieldOff Try.prog 62 1 1 := FieldOff.of (m := 0) _ _ Try.underlying62 rfl rfl Try.sizeOf12
instance : Field1 Try.prog 62 1 1 := Field1.of _ _ Try.underlying62 rfl rfl Try.isAgg12
instance : FieldOff Try.prog 62 2 2 := FieldOff.of (m := 0) _ _ Try.underlying62 rfl rfl Try.sizeOf54
instance : Field1 Try.prog 62 2 2 := Field1.of _ _ Try.underlying62 rfl rfl Try.isAgg54
instance : FieldOff Try.prog 62 3 3 := FieldOff.of (m := 0) _ _ Try.underlying62 rfl rfl Try.sizeOf55
instance : Field1 Try.prog 62 3 3 := Field1.of _ _ Try.underlying62 rfl rfl Try.isAgg55
instance : FieldOff Try.prog 62 4 4 := FieldOff.of (m := 0) _ _ Try.underlying62 rfl rfl Try.sizeOf5
instance : Field1 Try.prog 62 4 4 := Field1.of _ _ Try.underlying62 rfl rfl Try.isAgg5
instance : FieldOff Try.prog 62 5 5 := FieldOff.of (m := 0) _ _ Try.underlying62 rfl rfl Try.sizeOf5
instance : Field1 Try.prog 62 5 5 := Field1.of _ _ Try.underlying62 rfl rfl Try.isAgg5
instance : FieldOff Try.prog 62 6 6 := FieldOff.of (m := 0) _ _ Try.underlying62 rfl rfl Try.sizeOf56
instance : Field1 Try.prog 62 6 6 := Field1.of _ _ Try.underlying62 rfl rfl Try.isAgg56
instance : FieldOff Try.prog 62 7 7 := FieldOff.of (m := 0) _ _ Try.underlying62 rfl rfl Try.sizeOf57
instance : Field1 Try.prog 62 7 7 := Field1.of _ _ Try.underlying62 rfl rfl Try.isAgg57
instance : FieldOff Try.prog 62 8 8 := FieldOff.of (m := 0) _ _ Try.underlying62 rfl rfl Try.sizeOf58
instance : Field1 Try.prog 62 8 8 := Field1.of _ _ Try.underlying62 rfl rfl Try.isAgg58
instance : FieldOff Try.prog 62 9 9 := FieldOff.of (m := 0) _ _ Try.underlying62 rfl rfl Try.sizeOf59
instance : Field1 Try.prog 62 9 9 := Field1.of _ _ Try.underlying62 rfl rfl Try.isAgg59
instance : FieldOff Try.prog 62 10 10 := FieldOff.of (m := 0) _ _ Try.underlying62 rfl rfl Try.sizeOf60
instance : Field1 Try.prog 62 10 10 := Field1.of _ _ Try.underlying62 rfl rfl Try.isAgg60
instance : ZeroV Try.prog 62 [.int .u64 0, .int .u64 0, .int .u32 0, .int .u8 0, .int .u8 0, .int .u8 0, .int .u8 0, .nilFunc, .pointer none, .int .i32 0, .int .i32 0] := ⟨_, rfl, Try.zeroValue62⟩
instance : ConcT Try.prog 62 := ⟨by kernel_rfl⟩
instance : ZeroV Try.prog 63 [.pointer none] := ⟨_, rfl, Try.zeroValue63⟩
instance : Callable Try.prog 2 := ⟨Try.call2⟩
instance : Callable Try.prog 3 := ⟨Try.call3⟩
instance : Callable Try.prog 4 := ⟨Try.call4⟩
instance : Callable Try.prog 5 := ⟨Try.call5⟩
instance : Callable Try.prog 6 := ⟨Try.call6⟩
instance : Callable Try.prog 7 := ⟨Try.call7⟩
instance : Callable Try.prog 8 := ⟨Try.call8⟩
instance : Callable Try.prog 9 := ⟨Try.call9⟩
instance : Callable Try.prog 10 := ⟨Try.call10⟩
instance : Callable Try.prog 11 := ⟨Try.call11⟩
instance : Callable Try.prog 12 := ⟨Try.call12⟩
instance : Callable Try.prog 13 := ⟨Try.call13⟩
instance : Callable Try.prog 14 := ⟨Try.call14⟩
instance : Callable Try.prog 15 := ⟨Try.call15⟩
instance : Callable Try.prog 16 := ⟨Try.call16⟩
instance : Callable Try.prog 17 := ⟨Try.call17⟩
instance : Callable Try.prog 18 := ⟨Try.call18⟩
instance : Callable Try.prog 19 := ⟨Try.call19⟩
instance : Callable Try.prog 20 := ⟨Try.call20⟩
instance : Callable Try.prog 21 := ⟨Try.call21⟩
instance : Callable Try.prog 22 := ⟨Try.call22⟩
instance : Mixed Try.prog := ⟨by kernel_rfl⟩
end Go.Proofs.Ytigenhcekepeaaa
