/-
  Parts of the proof, put together: Sl9. No condition.
-/
import Derived.Test.YtammjnjpheobaaaGreatK4
set_option linter.unusedVariables false
set_option linter.unusedSimpArgs false
set_option linter.unnecessarySimpa false
set_option maxHeartbeats 4000000
namespace Go.SL
structure Hold (q:Prop):Prop where
 get:q
theorem isR {P:Program} {ops:Array Oper} {Q:Exit→Act→World→Prop} {cls:Nat→Oper→Cls} {w0:World} {S:List Nat} {n:Nat} {l:List (Nat×Oper)} {L:Slots} {D:List Deferred} {H:Hp} {qs:List Rd} (h:R P ops Q cls w0 S n l L D H qs):R P ops Q cls w0 S n l L D H qs:=h
theorem isO {P:Program} {ops:Array Oper} {Q:Exit→Act→World→Prop} {cls:Nat→Oper→Cls} {w0:World} {S:List Nat} {n:Nat} {l:List (Nat×Oper)} {L:Slots} {D:List Deferred} {H:Hp} {qs:List Rd} {kk:Nat} {o:Oper} (h:R1 P ops Q cls w0 S n kk o l L D H qs):R1 P ops Q cls w0 S n kk o l L D H qs:=h
theorem isD {Q:Exit→Act→World→Prop} {w0:World} {S:List Nat} {n:Nat} {e:Exit} {L:Slots} {D:List Deferred} {H:Hp} (h:Dn Q w0 S n e L D H):Dn Q w0 S n e L D H:=h
theorem isG {P:Program} {Q:Exit→Act→World→Prop} {w0:World} {S:List Nat} {n:Nat} {c:Code} {L:Slots} {D:List Deferred} {H:Hp} (h:G P Q w0 S n c L D H):G P Q w0 S n c L D H:=h
theorem sR {P:Program} {ops:Array Oper} {Q:Exit→Act→World→Prop} {cls:Nat→Oper→Cls} {w0:World} {S:List Nat} {n:Nat} {l:List (Nat×Oper)} {L:Slots} {D:List Deferred} {H:Hp} {qs:List Rd} {q:Prop} (k:q) (h:Hold q→R P ops Q cls w0 S n l L D H qs:=by
 intro k
 first
  |(apply R.enter0;exact k.get)
  |(apply R.nil;exact k.get)
  |(apply R.enterT;exact rfl;exact rfl;exact rfl;exact k.get)
  |(apply R.skip;exact rfl;exact rfl;exact nle rfl;exact k.get)
  |(apply R.skipU;exact rfl;exact rfl;exact nle rfl;exact k.get)
  |(apply R.skipN;exact rfl;exact rfl;exact k.get)
  |(apply R.splitT;exact rfl;exact rfl;exact rfl;omega;exact k.get)
  |(apply R.splitF;exact rfl;exact rfl;exact rfl;omega;exact k.get)
  |(apply R.splitVT;exact rfl;exact rfl;exact rfl;assumption;exact k.get)
  |(apply R.splitVF;exact rfl;exact rfl;exact rfl;assumption;exact k.get)
 ):R P ops Q cls w0 S n l L D H qs:=h ⟨k⟩
theorem sB {P:Program} {ops:Array Oper} {Q:Exit→Act→World→Prop} {cls:Nat→Oper→Cls} {w0:World} {S:List Nat} {n:Nat} {l:List (Nat×Oper)} {L:Slots} {D:List Deferred} {H:Hp} {qs:List Rd} {kk:Nat} {d:Option Nat} {ty:TypeId} {pos:String} {af:Array Edge} {g:Option (Nat×Bool)} {bo:BinOp} {T yT:TypeId} {x y:Operand} {q:Prop} (k:q) (h:Hold q→R1 P ops Q cls w0 S n kk ⟨d,.binOp bo T x y yT,ty,pos,af,g⟩ l L D H qs:=by
 intro k
 first
  |(apply R.lss;exact rfl;exact rfl;exact rfl;exact nle rfl;exact k.get)
  |(apply R.leq;exact rfl;exact rfl;exact rfl;exact nle rfl;exact k.get)
  |(apply R.gtr;exact rfl;exact rfl;exact rfl;exact nle rfl;exact k.get)
  |(apply R.geq;exact rfl;exact rfl;exact rfl;exact nle rfl;exact k.get)
  |(apply R.eql;exact rfl;exact rfl;exact rfl;exact nle rfl;exact k.get)
  |(apply R.neq;exact rfl;exact rfl;exact rfl;exact nle rfl;exact k.get)
  |(apply R.addw;exact rfl;exact rfl;(·(first|assumption|exact wrap_i64 (by omega)|exact wrap_u64 (by omega)|exact wrap_u32 (by omega)|exact wrap_u8 (by omega)|exact rfl));exact rfl;exact nle rfl;exact k.get)
  |(apply R.subw;exact rfl;exact rfl;(·(first|assumption|exact wrap_i64 (by omega)|exact wrap_u64 (by omega)|exact wrap_u32 (by omega)|exact wrap_u8 (by omega)|exact rfl));exact rfl;exact nle rfl;exact k.get)
  |(apply R.mulw;exact rfl;exact rfl;(·(first|assumption|exact wrap_i64 (by omega)|exact wrap_u64 (by omega)|exact wrap_u32 (by omega)|exact wrap_u8 (by omega)|exact rfl));exact rfl;exact nle rfl;exact k.get)
  |(apply R.quow;exact rfl;exact rfl;omega;(·(first|assumption|exact wrap_i64 (by omega)|exact wrap_u64 (by omega)|exact wrap_u32 (by omega)|exact wrap_u8 (by omega)|exact rfl));exact rfl;exact nle rfl;exact k.get)
  |(apply R.remw;exact rfl;exact rfl;omega;exact rfl;exact rfl;exact nle rfl;exact k.get)
  |(apply R.eqlNil;exact rfl;exact rfl;exact rfl;exact nle rfl;exact k.get)
  |(apply R.neqNil;exact rfl;exact rfl;exact rfl;exact nle rfl;exact k.get)
  |(apply R.eqlBool;exact rfl;exact rfl;exact rfl;exact nle rfl;exact k.get)
  |(apply R.neqBool;exact rfl;exact rfl;exact rfl;exact nle rfl;exact k.get)
  |(apply R.eql5;exact rfl;exact rfl;exact rfl;exact nle rfl;exact k.get)
  |(apply R.neq5;exact rfl;exact rfl;exact rfl;exact nle rfl;exact k.get)
  |(apply R.eql4;exact rfl;exact rfl;exact rfl;exact nle rfl;exact k.get)
  |(apply R.and;exact rfl;exact rfl;exact rfl;exact nle rfl;exact k.get)
  |(apply R.or;exact rfl;exact rfl;exact rfl;exact nle rfl;exact k.get)
  |(apply R.xor;exact rfl;exact rfl;exact rfl;exact nle rfl;exact k.get)
  |(apply R.shl;exact rfl;exact rfl;omega;(·(first|assumption|exact wrap_i64 (by omega)|exact wrap_u64 (by omega)|exact wrap_u32 (by omega)|exact wrap_u8 (by omega)|exact rfl));exact rfl;exact nle rfl;exact k.get)
  |(apply R.shr;exact rfl;exact rfl;omega;(·(first|assumption|exact rfl));exact rfl;exact nle rfl;exact k.get)
  |(apply R.eqlNilS;exact rfl;exact rfl;exact rfl;exact nle rfl;exact k.get)
 ):R1 P ops Q cls w0 S n kk ⟨d,.binOp bo T x y yT,ty,pos,af,g⟩ l L D H qs:=h ⟨k⟩
theorem sC {P:Program} {ops:Array Oper} {Q:Exit→Act→World→Prop} {cls:Nat→Oper→Cls} {w0:World} {S:List Nat} {n:Nat} {l:List (Nat×Oper)} {L:Slots} {D:List Deferred} {H:Hp} {qs:List Rd} {kk:Nat} {d:Option Nat} {ty:TypeId} {pos:String} {af:Array Edge} {g:Option (Nat×Bool)} {b:Builtin} {as:Array Operand} {aT:Array TypeId} {q:Prop} (k:q) (h:Hold q→R1 P ops Q cls w0 S n kk ⟨d,.call ⟨.builtin b,as,aT⟩,ty,pos,af,g⟩ l L D H qs:=by
 intro k
 first
  |(apply R.max;exact rfl;exact rfl;exact rfl;exact nle rfl;exact k.get)
  |(apply R.min;exact rfl;exact rfl;exact rfl;exact nle rfl;exact k.get)
  |(apply R.len;exact rfl;exact rfl;exact nle rfl;exact k.get)
  |(apply R.cap;exact rfl;exact rfl;exact nle rfl;exact k.get)
  |(apply R.append0;exact rfl;exact rfl;(·(first|omega|assumption));exact rfl;exact nle rfl;exact k.get)
  |(apply R.append;exact rfl;exact rfl;assumption;(·(first|exact Take.nil|(repeat(first|exact Take.here|apply Take.there))));(·(repeat(first|exact Has.here|apply Has.there)));(·(first|assumption|(dsimp only[List.drop,List.take];try exact rfl)|exact rfl));(·(first|exact rfl|assumption|(simp;done)));(·(first|exact rfl|assumption));exact rfl;(·(first|decide|omega));(·(simp only[maxLen];omega));omega;exact rfl;exact nle rfl;exact k.get)
  |(apply R.appendX;exact rfl;exact rfl;assumption;(·(first|exact Take.nil|(repeat(first|exact Take.here|apply Take.there))));(·(repeat(first|exact Has.here|apply Has.there)));(·(first|assumption|(dsimp only[List.drop,List.take];try exact rfl)|exact rfl));(·(first|exact rfl|assumption|(simp;done)));(·(first|exact rfl|assumption));exact rfl;(·(first|decide|omega));(·(simp only[maxLen];omega));omega;exact rfl;(·(intro _;(first|(intro _ _ h;cases h;done)|(repeat(first|exact qok_nil|(apply qok_cons;(·first|(intro hc;exact absurd hc (nmem rfl))|(intro _;apply CellPr.mk;(·repeat(first|exact Has.here|apply Has.there));(first|exact rfl|assumption))|(intro _;apply CellsPr.mk;(·repeat(first|exact Has.here|apply Has.there));(first|exact rfl|assumption)))))))));exact nle rfl;exact k.get)
  |(apply R.appendRoom;exact rfl;exact rfl;(·(first|omega|assumption));(·(repeat(first|exact Has.here|apply Has.there)));(·(first|assumption|(dsimp only[List.drop,List.take];try exact rfl)|exact rfl));(·(first|assumption|exact rfl|(simp;done)));(·(first|assumption|exact rfl));(·(repeat(first|exact Upd.here|apply Upd.there)));(·(first|assumption|(dsimp only[setL,List.set,Value.cells,List.toList_toArray];try exact rfl)|exact rfl));(·(first|omega|assumption));exact rfl;exact nle rfl;exact k.get)
  |(apply R.appendZ;exact rfl;exact rfl;(·(first|assumption|exact rfl));(·(first|omega|assumption));(·(repeat(first|exact Has.here|apply Has.there)));(·(first|omega|assumption));exact rfl;(·(exact nle rfl));(·(first|omega|assumption));(·(simp only[maxLen];omega));(·(first|omega|assumption));(·(first|omega|assumption));exact rfl;exact nle rfl;exact k.get)
  |(apply R.clear0;exact rfl;(·(first|omega|assumption));exact rfl;exact k.get)
  |(apply R.clear;exact rfl;(·(first|omega|assumption));exact rfl;(·(exact nle rfl));exact rfl;(·(repeat(first|exact Upd.here|apply Upd.there)));(·(first|assumption|(dsimp only[setL,List.set,Value.cells,List.toList_toArray];try exact rfl)|exact rfl));(·(first|omega|assumption));exact rfl;exact k.get)
  |(apply R.delete;exact rfl;(·(repeat(first|exact Has.here|apply Has.there)));exact rfl;(·(first|exact KeyAsk.int rfl|assumption));(·(first|assumption|exact rfl));(·(repeat(first|exact Upd.here|apply Upd.there)));exact rfl;exact k.get)
  |(apply R.copy;exact rfl;exact rfl;(·(repeat(first|exact Has.here|apply Has.there)));(·(first|assumption|exact rfl));(·(first|assumption|(dsimp only[List.drop,List.take];try exact rfl)|exact rfl));(·(first|assumption|exact rfl|(simp;done)));(·(first|assumption|exact rfl));(·(repeat(first|exact Upd.here|apply Upd.there)));(·(first|assumption|(dsimp only[setL,List.set,Value.cells,List.toList_toArray];try exact rfl)|exact rfl));(·(first|omega|decide|(simp;omega)));exact rfl;exact nle rfl;exact k.get)
  |(apply R.copy0;exact rfl;exact rfl;(·(first|assumption|exact Nat.zero_min _|exact Nat.min_zero _));exact rfl;exact nle rfl;exact k.get)
  |(apply R.copyN;exact rfl;exact rfl;(·(repeat(first|exact Has.here|apply Has.there)));(·(first|assumption|exact rfl));(·(first|assumption|(dsimp only[List.drop,List.take];try exact rfl)|exact rfl));(·(first|assumption|exact rfl|(simp;done)));(·(first|assumption|exact rfl));(·(repeat(first|exact Upd.here|apply Upd.there)));(·(first|assumption|(dsimp only[setL,List.set,Value.cells,List.toList_toArray];try exact rfl)|exact rfl));(·(first|omega|assumption));exact rfl;exact nle rfl;exact k.get)
 ):R1 P ops Q cls w0 S n kk ⟨d,.call ⟨.builtin b,as,aT⟩,ty,pos,af,g⟩ l L D H qs:=h ⟨k⟩
theorem sS {P:Program} {ops:Array Oper} {Q:Exit→Act→World→Prop} {cls:Nat→Oper→Cls} {w0:World} {S:List Nat} {n:Nat} {l:List (Nat×Oper)} {L:Slots} {D:List Deferred} {H:Hp} {qs:List Rd} {kk:Nat} {d:Option Nat} {ty:TypeId} {pos:String} {af:Array Edge} {g:Option (Nat×Bool)} {T:TypeId} {x:Operand} {lo hi mx:Option Operand} {q:Prop} (k:q) (h:Hold q→R1 P ops Q cls w0 S n kk ⟨d,.slice T x lo hi mx,ty,pos,af,g⟩ l L D H qs:=by
 intro k
 first
  |(apply R.sliceH;exact rfl;exact rfl;(·(first|omega|(constructor<;>omega)|(refine⟨?_,?_,?_⟩<;>omega)|(refine⟨?_,?_,?_,?_⟩<;>omega)));(·(first|(with_reducible exact Int.toNat_natCast _)|assumption|exact rfl));exact rfl;exact nle rfl;exact k.get)
  |(apply R.sliceLH;exact rfl;exact rfl;exact rfl;(·(first|omega|(constructor<;>omega)|(refine⟨?_,?_,?_⟩<;>omega)|(refine⟨?_,?_,?_,?_⟩<;>omega)));(·(first|(with_reducible exact Int.toNat_natCast _)|assumption|exact rfl));(·(first|(with_reducible exact Int.toNat_natCast _)|assumption|exact rfl));(·(first|exact ad1 _|exact ad4 _ _|exact Nat.zero_add _|exact Nat.add_zero _|exact ad2 _ _|exact ad3 _ _|(simp only[Nat.reduceAdd];done)|exact rfl));exact rfl;exact nle rfl;exact k.get)
  |(apply R.sliceL;exact rfl;exact rfl;(·(first|omega|(constructor<;>omega)|(refine⟨?_,?_,?_⟩<;>omega)|(refine⟨?_,?_,?_,?_⟩<;>omega)));(·(first|(with_reducible exact Int.toNat_natCast _)|assumption|exact rfl));(·(first|exact ad1 _|exact ad4 _ _|exact Nat.zero_add _|exact Nat.add_zero _|exact ad2 _ _|exact ad3 _ _|(simp only[Nat.reduceAdd];done)|exact rfl));exact rfl;exact nle rfl;exact k.get)
  |(apply R.slice3;exact rfl;exact rfl;exact rfl;(·(first|omega|(constructor<;>omega)|(refine⟨?_,?_,?_⟩<;>omega)|(refine⟨?_,?_,?_,?_⟩<;>omega)));(·(first|(with_reducible exact Int.toNat_natCast _)|assumption|exact rfl));(·(first|(with_reducible exact Int.toNat_natCast _)|assumption|exact rfl));exact rfl;exact nle rfl;exact k.get)
  |(apply R.sliceAL;exact rfl;exact rfl;(·(first|omega|(constructor<;>omega)|(refine⟨?_,?_,?_⟩<;>omega)|(refine⟨?_,?_,?_,?_⟩<;>omega)));(·(first|(with_reducible exact Int.toNat_natCast _)|assumption|exact rfl));(·(first|exact ad1 _|exact ad4 _ _|exact Nat.zero_add _|exact Nat.add_zero _|exact ad2 _ _|exact ad3 _ _|(simp only[Nat.reduceAdd];done)|exact rfl));exact rfl;exact nle rfl;exact k.get)
  |(apply R.sliceALx;exact rfl;exact rfl;(·(omega));exact rfl;exact nle rfl;exact k.get)
  |(apply R.sliceAH;exact rfl;exact rfl;(·(first|omega|(constructor<;>omega)|(refine⟨?_,?_,?_⟩<;>omega)|(refine⟨?_,?_,?_,?_⟩<;>omega)));(·(first|(with_reducible exact Int.toNat_natCast _)|assumption|exact rfl));exact rfl;exact nle rfl;exact k.get)
  |(apply R.sliceLHx;exact rfl;exact rfl;exact rfl;(·(first|omega|(constructor<;>omega)|(refine⟨?_,?_,?_⟩<;>omega)|(refine⟨?_,?_,?_,?_⟩<;>omega)));(·(first|(with_reducible exact Int.toNat_natCast _)|assumption|exact rfl));(·(first|(with_reducible exact Int.toNat_natCast _)|assumption|exact rfl));exact rfl;exact nle rfl;exact k.get)
  |(apply R.sliceLx;exact rfl;exact rfl;(·(first|omega|(constructor<;>omega)|(refine⟨?_,?_,?_⟩<;>omega)|(refine⟨?_,?_,?_,?_⟩<;>omega)));(·(first|(with_reducible exact Int.toNat_natCast _)|assumption|exact rfl));exact rfl;exact nle rfl;exact k.get)
 ):R1 P ops Q cls w0 S n kk ⟨d,.slice T x lo hi mx,ty,pos,af,g⟩ l L D H qs:=h ⟨k⟩
theorem sO {P:Program} {ops:Array Oper} {Q:Exit→Act→World→Prop} {cls:Nat→Oper→Cls} {w0:World} {S:List Nat} {n:Nat} {l:List (Nat×Oper)} {L:Slots} {D:List Deferred} {H:Hp} {qs:List Rd} {kk:Nat} {o:Oper} {q:Prop} (k:q) (h:Hold q→R1 P ops Q cls w0 S n kk o l L D H qs:=by
 intro k
 first
  |(apply R.move;exact rfl;exact rfl;exact nle rfl;exact k.get)
  |(apply R.assign;exact rfl;exact rfl;exact nle rfl;exact k.get)
  |(apply R.nilCheck;exact rfl;exact rfl;exact nle rfl;exact k.get)
  |(apply R.fieldAddr;exact rfl;(·(first|exact ad1 _|exact ad4 _ _|exact Nat.zero_add _|exact Nat.add_zero _|exact ad2 _ _|exact ad3 _ _|(simp only[Nat.reduceAdd];done)|exact rfl));exact rfl;exact nle rfl;exact k.get)
  |(apply R.load1;exact rfl;(·(repeat(first|exact Has.here|apply Has.there)));(·(first|exact rfl|assumption));exact rfl;exact nle rfl;exact k.get)
  |(apply R.loadN;exact rfl;(·(repeat(first|exact Has.here|apply Has.there)));(·(first|assumption|(dsimp only[List.drop,List.take];try exact rfl)|exact rfl));(·(first|exact rfl|assumption|(simp;done)));exact rfl;exact nle rfl;exact k.get)
  |(apply R.store1;exact rfl;exact rfl;(·(first|exact rfl|assumption));(·(repeat(first|exact Upd.here|apply Upd.there)));(·(first|assumption|(dsimp only[List.set];try exact rfl)|exact rfl));(·(first|decide|omega|(simp;done)|(simp;omega)));exact rfl;(·(first|(intro _ _ h;cases h;done)|(repeat(first|exact qok_nil|(apply qok_cons;(·first|(intro hc;exact absurd hc (nmem rfl))|(intro _;apply CellPr.mk;(·repeat(first|exact Has.here|apply Has.there));(first|exact rfl|assumption))|(intro _;apply CellsPr.mk;(·repeat(first|exact Has.here|apply Has.there));(first|exact rfl|assumption))))))));exact k.get)
  |(apply R.extract;exact rfl;exact rfl;exact rfl;exact nle rfl;exact k.get)
  |(apply R.pickT;exact rfl;exact rfl;exact rfl;exact nle rfl;exact k.get)
  |(apply R.pickF;exact rfl;exact rfl;exact rfl;exact nle rfl;exact k.get)
  |exact sB k.get
  |exact sC k.get
  |(apply R.storeN;exact rfl;exact rfl;(·(first|exact rfl|assumption));(·(first|exact rfl|assumption));(·(repeat(first|exact Upd.here|apply Upd.there)));(·(first|assumption|(dsimp only[setL,List.set,Value.cells,List.toList_toArray];try exact rfl)|exact rfl));(·(first|decide|omega|(simp;done)|(simp;omega)));exact rfl;(·(first|(intro _ _ h;cases h;done)|(repeat(first|exact qok_nil|(apply qok_cons;(·first|(intro hc;exact absurd hc (nmem rfl))|(intro _;apply CellPr.mk;(·repeat(first|exact Has.here|apply Has.there));(first|exact rfl|assumption))|(intro _;apply CellsPr.mk;(·repeat(first|exact Has.here|apply Has.there));(first|exact rfl|assumption))))))));exact k.get)
  |(apply R.alloc;exact rfl;exact nle rfl;exact k.get)
  |(apply R.box;exact rfl;exact rfl;exact rfl;exact nle rfl;exact k.get)
  |(apply R.convert;exact rfl;(·(first|assumption|exact wrap_i64 (by omega)|exact wrap_u64 (by omega)|exact wrap_u32 (by omega)|exact wrap_u8 (by omega)|exact rfl));exact rfl;exact nle rfl;exact k.get)
  |(apply R.notP;exact rfl;exact rfl;exact nle rfl;exact k.get)
  |(apply R.not;exact rfl;exact rfl;exact nle rfl;exact k.get)
  |(apply R.indexAddr;exact rfl;exact rfl;(·(first|omega|(constructor<;>omega)|(refine⟨?_,?_,?_⟩<;>omega)|(refine⟨?_,?_,?_,?_⟩<;>omega)));(·(first|(with_reducible exact Int.toNat_natCast _)|assumption|exact rfl));(·(first|exact ad1 _|exact ad4 _ _|exact Nat.zero_add _|exact Nat.add_zero _|exact ad2 _ _|exact ad3 _ _|(simp only[Nat.reduceAdd];done)|exact rfl));exact rfl;exact nle rfl;exact k.get)
  |(apply R.indexAddrA;exact rfl;exact rfl;(·(first|omega|(constructor<;>omega)|(refine⟨?_,?_,?_⟩<;>omega)|(refine⟨?_,?_,?_,?_⟩<;>omega)));(·(first|(with_reducible exact Int.toNat_natCast _)|assumption|exact rfl));(·(first|exact ad1 _|exact ad4 _ _|exact Nat.zero_add _|exact Nat.add_zero _|exact ad2 _ _|exact ad3 _ _|(simp only[Nat.reduceAdd];done)|exact rfl));exact rfl;exact nle rfl;exact k.get)
  |(apply R.index1;exact rfl;exact rfl;(·(first|omega|(constructor<;>omega)|(refine⟨?_,?_,?_⟩<;>omega)|(refine⟨?_,?_,?_,?_⟩<;>omega)));(·(first|(with_reducible exact Int.toNat_natCast _)|assumption|exact rfl));(·(first|exact rfl|assumption));exact rfl;exact nle rfl;exact k.get)
  |(apply R.indexN;exact rfl;exact rfl;(·(first|omega|(constructor<;>omega)|(refine⟨?_,?_,?_⟩<;>omega)|(refine⟨?_,?_,?_,?_⟩<;>omega)));(·(first|(with_reducible exact Int.toNat_natCast _)|assumption|exact rfl));(·(first|assumption|(dsimp only[List.drop,List.take];try exact rfl)|exact rfl));exact rfl;exact nle rfl;exact k.get)
  |exact sS k.get
  |(apply R.field1;exact rfl;(·(first|exact rfl|assumption));exact rfl;exact nle rfl;exact k.get)
  |(apply R.fieldN;exact rfl;(·(first|assumption|(dsimp only[List.drop,List.take];try exact rfl)|exact rfl));exact rfl;exact nle rfl;exact k.get)
  |(apply R.negw;exact rfl;(·(first|assumption|exact wrap_i64 (by omega)|exact wrap_u64 (by omega)|exact wrap_u32 (by omega)|exact wrap_u8 (by omega)|exact rfl));exact rfl;exact nle rfl;exact k.get)
  |(apply R.build;exact rfl;exact rfl;(·(first|assumption|(dsimp only[setL,List.set,Value.cells,List.toList_toArray];try exact rfl)|exact rfl));exact rfl;exact nle rfl;exact k.get)
  |(apply R.xor1;exact rfl;exact rfl;exact nle rfl;exact k.get)
  |(apply R.mkIface;exact rfl;exact rfl;exact nle rfl;exact k.get)
  |(apply R.makeFunc;exact rfl;exact rfl;exact rfl;exact nle rfl;exact k.get)
  |(apply R.defer;exact rfl;exact rfl;exact k.get)
  |(apply R.deferV;exact rfl;exact rfl;exact rfl;exact k.get)
  |(apply R.buildSlice;exact rfl;exact rfl;(·(first|(dsimp only[zrep,setL,Value.cells,List.set,List.append_nil,Nat.zero_mul,Nat.reduceAdd,List.nil_append,List.cons_append];try exact rfl)|exact rfl));exact nle rfl;exact rfl;exact nle rfl;exact rfl;exact nle rfl;exact k.get)
  |(apply R.makeSlice;exact rfl;exact rfl;(·(first|omega|(constructor<;>omega)|(refine⟨?_,?_,?_⟩<;>omega)|(refine⟨?_,?_,?_,?_⟩<;>omega)));(·(first|omega|(constructor<;>omega)|(refine⟨?_,?_,?_⟩<;>omega)|(refine⟨?_,?_,?_,?_⟩<;>omega)));exact rfl;exact nle rfl;(·(first|(with_reducible exact Int.toNat_natCast _)|assumption|exact rfl));(·(first|(with_reducible exact Int.toNat_natCast _)|assumption|exact rfl));exact rfl;exact nle rfl;exact k.get)
  |(apply R.lookupT;exact rfl;(·(repeat(first|exact Has.here|apply Has.there)));exact rfl;(·(first|exact KeyAsk.int rfl|assumption));assumption;exact rfl;exact nle rfl;exact k.get)
  |(apply R.lookupF;exact rfl;(·(repeat(first|exact Has.here|apply Has.there)));exact rfl;(·(first|exact KeyAsk.int rfl|assumption));assumption;exact rfl;exact nle rfl;exact k.get)
  |(apply R.mapUpdate;exact rfl;(·(repeat(first|exact Has.here|apply Has.there)));exact rfl;exact rfl;(·(first|exact KeyAsk.int rfl|assumption));(·(first|assumption|exact rfl));(·(repeat(first|exact Upd.here|apply Upd.there)));exact rfl;exact k.get)
  |(apply R.makeMap;(·(intro _ h;cases h));exact rfl;exact nle rfl;exact k.get)
  |(apply R.buildSlice0;exact rfl;exact nle rfl;exact k.get)
 ):R1 P ops Q cls w0 S n kk o l L D H qs:=h ⟨k⟩
theorem sD {Q:Exit→Act→World→Prop} {w0:World} {S:List Nat} {n:Nat} {e:Exit} {L:Slots} {D:List Deferred} {H:Hp} {q:Prop} (k:q) (h:Hold q→Dn Q w0 S n e L D H:=by
 intro k
 first
  |(apply Dn.next;exact k.get)
  |(apply Dn.blockEnd;exact k.get)
  |(apply Dn.exitHere;exact k.get)
  |(apply Dn.exitPast;decide;exact k.get)
  |(apply Dn.exitThen;exact k.get)
  |(apply Dn.retThen;exact k.get)
  |(apply Dn.retBlock;exact k.get)
  |(apply Dn.postD;exact k.get)
  |(apply Dn.postDEnd;exact k.get)
 ):Dn Q w0 S n e L D H:=h ⟨k⟩
theorem sG {P:Program} {Q:Exit→Act→World→Prop} {w0:World} {S:List Nat} {n:Nat} {c:Code} {L:Slots} {D:List Deferred} {H:Hp} {q:Prop} (k:q) (h:Hold q→G P Q w0 S n c L D H:=by
 intro k
 first
  |(apply G.plain;(first|(dsimp only[enum,Nat.reduceAdd];try exact rfl)|exact rfl);exact k.get)
  |(apply G.block;exact k.get)
  |(apply G.skip;exact k.get)
  |(apply G.exit;exact k.get)
  |(apply G.ret;exact k.get)
  |(apply G.condT;exact rfl;exact k.get)
  |(apply G.condF;exact rfl;exact k.get)
  |(apply G.condVT;exact rfl;assumption;exact k.get)
  |(apply G.condVF;exact rfl;assumption;exact k.get)
  |(apply G.condPT;exact rfl;(first|decide|omega);exact k.get)
  |(apply G.condPF;exact rfl;(first|decide|omega);exact k.get)
 ):G P Q w0 S n c L D H:=h ⟨k⟩
theorem stn {p q:Prop} (k:q) (h:Hold q→p:=by
 intro k
 first
  |((with_reducible apply isO);exact sO k.get)
  |((with_reducible apply isR);exact sR k.get)
  |((with_reducible apply isD);exact sD k.get)
  |((with_reducible apply isG);exact sG k.get)):p:=h ⟨k⟩
theorem st {p q:Prop} (k:q) (h:Hold q→p:=by
 intro k
 first
  |((with_reducible apply isO);exact sO k.get)
  |((with_reducible apply isR);exact sR k.get)
  |((with_reducible apply isG);apply G.seq;exact k.get)
  |((with_reducible apply isD);exact sD k.get)
  |((with_reducible apply isG);exact sG k.get)):p:=h ⟨k⟩
theorem cq {C p q:Prop} (c:C) (k:q) (h:Hold C→Hold q→p:=by
 intro c k
 first
  |((with_reducible apply isO);apply R.callP;exact rfl;(·(apply c.get<;>(first|omega|assumption)));exact(by repeat(first|exact Split.nil|(apply Split.cons;·(repeat(first|exact Take.here|apply Take.there|exact Take.nil)))));exact rfl;exact nle rfl;exact k.get)
  |((with_reducible apply isO);apply R.callQ;exact rfl;(·(apply c.get<;>(first|omega|assumption)));exact(by repeat(first|exact Split.nil|(apply Split.cons;·(repeat(first|exact Take.here|apply Take.there|exact Take.nil)))));exact rfl;exact nle rfl;exact k.get)
  |((with_reducible apply isO);apply R.callVP;exact rfl;exact inferInstance;exact rfl;(·(apply c.get<;>(first|omega|assumption)));exact(by repeat(first|exact Split.nil|(apply Split.cons;·(repeat(first|exact Take.here|apply Take.there|exact Take.nil)))));exact rfl;exact nle rfl;exact k.get)
  |((with_reducible apply isO);apply R.invokeP;exact rfl;exact inferInstance;exact inferInstance;exact rfl;(·(apply c.get<;>(first|omega|assumption)));exact(by repeat(first|exact Split.nil|(apply Split.cons;·(repeat(first|exact Take.here|apply Take.there|exact Take.nil)))));exact rfl;exact nle rfl;exact k.get)
 ):p:=h ⟨c⟩ ⟨k⟩
theorem sp {p q r:Prop} (k1:q) (k2:r) (h:Hold q→Hold r→p:=by
 intro k1 k2
 first
  |((with_reducible apply isR);apply R.split;exact rfl;exact rfl;exact rfl;exact k1.get;exact k2.get)
  |((with_reducible apply isR);apply R.splitB;exact rfl;exact rfl;exact rfl;exact k1.get;exact k2.get)
  |((with_reducible apply isG);apply G.condP;exact rfl;exact k1.get;exact k2.get)
  |((with_reducible apply isG);apply G.condB;exact rfl;exact k1.get;exact k2.get)
 ):p:=h ⟨k1⟩ ⟨k2⟩
end Go.SL
