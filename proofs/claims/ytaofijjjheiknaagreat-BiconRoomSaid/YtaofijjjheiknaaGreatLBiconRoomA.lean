/-
  Parts of the proof, put together: BiconRoom0. No condition.
-/
import Derived.Test.YtaofijjjheiknaaGreatQ16
set_option linter.unusedVariables false
set_option linter.unusedSimpArgs false
set_option linter.unnecessarySimpa false
set_option maxHeartbeats 4000000
open Go.IntKind renaming wrap→AL
open Go.Proofs.Tryz renaming prog→AC,results12→DZ
open Int renaming tmod_eq_emod_of_nonneg→DO
open List renaming cons_append→AA,nil_append→AB,eq_nil_of_length_eq_zero→DA
open Nat renaming zero_le→AU
open Go.Proofs.Tryz
open Go.Value renaming int→Z9
open Go.IntKind renaming i64→Z8
namespace Go.Proofs.YtaofijjjheiknaaGreat
open Go.SL Go.Spc Go.Tup Go.Srt
def wdr (a b c d:Nat):Nat→List Value
 |0=>[Z9 Z8 0,Z9 Z8 0,Z9 Z8 0,Z9 Z8 0,Z9 Z8 0,Z9 Z8 0,Z9 Z8 0,Z9 Z8 0,Z9 Z8 0,Z9 Z8 0,Z9 Z8 0,Z9 Z8 0,Z9 Z8 0,Z9 Z8 0,Z9 Z8 0,Z9 Z8 0]
 |1=>[Z9 Z8 0,Z9 Z8 0,Z9 Z8 a,Z9 Z8 0,Z9 Z8 0,Z9 Z8 0,Z9 Z8 0,Z9 Z8 0,Z9 Z8 0,Z9 Z8 0,Z9 Z8 0,Z9 Z8 0,Z9 Z8 0,Z9 Z8 0,Z9 Z8 0,Z9 Z8 0]
 |2=>[Z9 Z8 0,Z9 Z8 0,Z9 Z8 a,Z9 Z8 0,Z9 Z8 0,Z9 Z8 0,Z9 Z8 b,Z9 Z8 0,Z9 Z8 0,Z9 Z8 0,Z9 Z8 0,Z9 Z8 0,Z9 Z8 0,Z9 Z8 0,Z9 Z8 0,Z9 Z8 0]
 |3=>[Z9 Z8 0,Z9 Z8 0,Z9 Z8 a,Z9 Z8 0,Z9 Z8 0,Z9 Z8 0,Z9 Z8 b,Z9 Z8 0,Z9 Z8 0,Z9 Z8 0,Z9 Z8 c,Z9 Z8 0,Z9 Z8 0,Z9 Z8 0,Z9 Z8 0,Z9 Z8 0]
 |_=>[Z9 Z8 0,Z9 Z8 0,Z9 Z8 a,Z9 Z8 0,Z9 Z8 0,Z9 Z8 0,Z9 Z8 b,Z9 Z8 0,Z9 Z8 0,Z9 Z8 0,Z9 Z8 c,Z9 Z8 0,Z9 Z8 0,Z9 Z8 0,Z9 Z8 d,Z9 Z8 0]
theorem FG {ts a b:List T5} (h:My 0 ts a b):a=[]:=by obtain⟨sl,fl,lab,_,_,h3,_,h5,_⟩:=h;have h6:=h3.len;have h7:lab=[]:=DA oM;rw[h5,h7];rfl
theorem FH (r:Nat) (hr:r<256) (a0 a1 a2 a3:Nat) (h0:a0<256) (h1:a1<256) (h2:a2<256) (h3:a3<256):CtQ AC 12 [.int .u8 (r:Int),.agg #[.int .u8 (a0:Int),.int .u8 (a1:Int),.int .u8 (a2:Int),.int .u8 (a3:Int)]] [] (.bool true):=by
 have aa:=cT;have ax:=Xt (r%12) oM;have e1:AL .i64 ((r:Int).tmod 12)=((r%12:Nat):Int):=by rw[DO oM,Ah oM];omega
 have e2:(r:Int).tmod 12=((r%12:Nat):Int):=by rw[DO oM];omega
 have e3:∀a:Nat,a<256→AL .i64 ((a:Int).tmod 5)=((a%5:Nat):Int):=fun a ha=>by rw[DO oM,Ah oM];omega
 have e4:∀a:Nat,AL .i64 ((1:Int)+((a%5:Nat):Int))=((1+a%5:Nat):Int):=fun a=>by rw[Ah oM];omega
 have f0:=e3 a0 h0;have f1:=e3 a1 h1;have f2:=e3 a2 h2;have f3:=e3 a3 h3;have g0:=e4 a0;have g1:=e4 a1;have g2:=e4 a2;have g3:=e4 a3;have ae:∀a:Nat,flv ⟨0,0,a,0⟩= .agg #[Z9 Z8 0,Z9 Z8 0,Z9 Z8 a,Z9 Z8 0]:=fun _=>rfl;have hz:=eQ1;have ac:CtQ AC 38 [.pointer none,.agg #[Z9 Z8 0,Z9 Z8 0,Z9 Z8 5,Z9 Z8 0],.agg #[Z9 Z8 0,Z9 Z8 0,Z9 Z8 3,Z9 Z8 0],.agg #[Z9 Z8 0,Z9 Z8 0,Z9 Z8 3,Z9 Z8 0],.agg #[Z9 Z8 0,Z9 Z8 0,Z9 Z8 3,Z9 Z8 0]] [] (.tuple #[.agg #[Z9 Z8 0,Z9 Z8 0,Z9 Z8 0,Z9 Z8 0],Z9 Z8 1]):=E0 ⟨0,0,5,0⟩ ⟨0,0,3,0⟩ ⟨0,0,3,0⟩ ⟨0,0,3,0⟩ rfl rfl rfl rfl;generalize ha:1+a0%5=a at*;generalize hb:1+a1%5=b at*;generalize hc:1+a2%5=c at*;generalize hd:1+a3%5=d at*;refine Ct.intro func12 rfl ntmps12 (nle rfl) fun _=>?_;dsimp only[Cy,Nat.reduceAdd];repeat(first|(refine st ?_;intros)|refine cq aa ?_|refine cq hWA ?_|refine cq hUs ?_)
 refine cL ax ?_;rintro _ _ ⟨bw,bd,ba,bs,cd,ca,cs,rfl,rfl,hW⟩;try dsimp only[AA,AB]
 have hWA:=Rj bw bd ba bs;repeat(first|(refine st ?_;intros)|refine cq aa ?_|refine cq hWA ?_|refine cq hUs ?_)
 rename_i b3 b6;refine G.loop (X:=Nat) (fun i=>i≤4) (fun i=>[(7,Z9 Z8 i),(6,pv b6),(5,pv bw),(3,pv b3),(0,.int .u8 (r:Int))])
  (fun i=>[[(b6,row (wdr a b c d i) 43)],Ab bw bd ba bs,cd,ca,cs,[(b3,row [.int .u8 (a0:Int),.int .u8 (a1:Int),.int .u8 (a2:Int),.int .u8 (a3:Int)] 40)]]) (fun i=>4-i) 0 (AU _) (body:=?_)
 intro i hi;by_cases a7:i<4
 ·obtain rfl|rfl|rfl|rfl:i=0∨i=1∨i=2∨i=3:=by omega
  ·dsimp only[wdr];repeat(first|(refine st ?_;intros)|refine cq aa ?_|refine cq hWA ?_|refine cq hUs ?_)
   refine Dn.round 1 oM oM
  ·dsimp only[wdr];repeat(first|(refine st ?_;intros)|refine cq aa ?_|refine cq hWA ?_|refine cq hUs ?_)
   refine Dn.round 2 oM oM
  ·dsimp only[wdr];repeat(first|(refine st ?_;intros)|refine cq aa ?_|refine cq hWA ?_|refine cq hUs ?_)
   refine Dn.round 3 oM oM
  ·dsimp only[wdr];repeat(first|(refine st ?_;intros)|refine cq aa ?_|refine cq hWA ?_|refine cq hUs ?_)
   refine Dn.round 4 oM oM
 obtain rfl:i=4:=by omega
 dsimp only[wdr];have a8:r%12<12:=oM;by_cases hw:a=5∧b=3∧c=3∧d=3
 ·obtain⟨rfl,rfl,rfl,rfl⟩:=hw;have ab:=nG ⟨0,0,5,0⟩ oA18 (pv bw);have hT:=mN bw bd ba bs _ cd ca cs hW ⟨0,0,5,0⟩ ⟨0,0,3,0⟩ ⟨0,0,3,0⟩ ⟨0,0,3,0⟩ [] [] [] [] (Um hW.dev oM oM) (Um hW.dev oM oM) (Um hW.dev oM oM) (Um hW.dev oM oM) rfl rfl rfl rfl oA19 (by have h:upF []=[]:=DA (by rw[Xe];rfl);rw[h];exact .nil) oA19 oA19 oA19 2 2 10 10 oA18 oA18 oA18 oA18 oA18 oA18 (by decide+kernel) oA18 (by decide+kernel) oA18 oA18 (by decide+kernel) (by decide+kernel) [] (fun a b h=>FG h) rfl oA19 oA19 (by show 10*(0+12)+(11*2+0)≤9000;omega) (by show 10*(0+14)+(16*2+(5*2+0))≤9000;omega) (AU _);rw[ae,ae] at hT;rw[ae,hz] at ab;repeat(first|(refine st ?_;intros)|refine cq aa ?_|refine cq hWA ?_|refine cq hUs ?_)
  refine cL hT ?_;rintro _ _ (⟨ak,x,e,ay,ah,az,W3,rfl,rfl,ad,ai,a4⟩|⟨al,rfl,ah,α3,rfl,ad,am,a5⟩)
  ·dsimp only[AA,AB];obtain⟨rfl,_⟩:=jZ ai rfl;have aj:8*10≤10*(r%12)-0:=ak;have ag:W3.α.used=0:=Lw hW ad ai.gs;have an:flv x= .agg #[Z9 Z8 x.first,Z9 Z8 x.blocks,Z9 Z8 x.width,Z9 Z8 x.count]:=rfl;rw[an];have hUs:=Ri ba _ ah ad.ar;rw[ag] at hUs;repeat(first|(refine st ?_;intros)|refine cq aa ?_|refine cq hWA ?_|refine cq hUs ?_)
   refine cL ac ?_;rintro _ _ ⟨rfl,rfl⟩;try dsimp only[AA,AB]
   repeat(first|(refine st ?_;intros)|refine cq aa ?_|refine cq hWA ?_|refine cq hUs ?_)
   refine cL ab ?_;rintro _ _ ⟨rfl,rfl⟩;try dsimp only[AA,AB]
   repeat(first|(refine st ?_;intros)|refine cq aa ?_|refine cq hWA ?_|refine cq hUs ?_)
   (refine Dn.post (Hr:=[]) DZ (hR:=?_);exact⟨congrArg Value.bool (Dt rfl),rfl⟩)
  ·dsimp only[AA,AB];have aj:10*(r%12)-0<8*10:=al;have ag:α3.used=0:=Lw hW ad am;rw[hz];have hUs:=Ri ba _ ah ad.ar;rw[show({wk0 10 9000 (10*(r%12)) with α:=α3}:Wk).α.used=0 from ag] at hUs;repeat(first|(refine st ?_;intros)|refine cq aa ?_|refine cq hWA ?_|refine cq hUs ?_)
   refine cL ac ?_;rintro _ _ ⟨rfl,rfl⟩;try dsimp only[AA,AB]
   repeat(first|(refine st ?_;intros)|refine cq aa ?_|refine cq hWA ?_|refine cq hUs ?_)
   refine cL ab ?_;rintro _ _ ⟨rfl,rfl⟩;try dsimp only[AA,AB]
   repeat(first|(refine st ?_;intros)|refine cq aa ?_|refine cq hWA ?_|refine cq hUs ?_)
   (refine Dn.post (Hr:=[]) DZ (hR:=?_);exact⟨congrArg Value.bool (Dt rfl),rfl⟩)
 have hT:=EZ ⟨0,0,a,0⟩ ⟨0,0,b,0⟩ ⟨0,0,c,0⟩ ⟨0,0,d,0⟩ hw (pv bw);rw[ae,ae,ae,ae,hz] at hT;by_cases av:a=2
 ·subst av;have aw:=nF bw bd ba bs _ cd ca cs hW ⟨0,0,2,0⟩ [] (Um hW.dev oM oM) rfl 2 10 oA18 oA18 oA18 (by decide+kernel) (by show 10*(0+4)+(3*2+0)≤9000;omega) (AU _);rw[ae] at aw;repeat(first|(refine st ?_;intros)|refine cq aa ?_|refine cq hWA ?_|refine cq hUs ?_)
  refine cL hT ?_;rintro _ _ ⟨rfl,rfl⟩;try dsimp only[AA,AB]
  repeat(first|(refine st ?_;intros)|refine cq aa ?_|refine cq hWA ?_|refine cq hUs ?_)
  refine cL ac ?_;rintro _ _ ⟨rfl,rfl⟩;try dsimp only[AA,AB]
  repeat(first|(refine st ?_;intros)|refine cq aa ?_|refine cq hWA ?_|refine cq hUs ?_)
  refine cL aw ?_;rintro _ _ (⟨ak,x,e,ay,ah,az,W3,rfl,rfl,ad,ai,a4⟩|⟨al,rfl,ah,α3,rfl,ad,am,a5⟩)
  ·dsimp only[AA,AB];obtain⟨rfl,_⟩:=jZ ai rfl;have aj:8*10≤10*(r%12)-0:=ak;have ag:W3.α.used=0:=Lw hW ad ai.gs;have an:flv x= .agg #[Z9 Z8 x.first,Z9 Z8 x.blocks,Z9 Z8 x.width,Z9 Z8 x.count]:=rfl;rw[an];have hUs:=Ri ba _ ah ad.ar;rw[ag] at hUs;repeat(first|(refine st ?_;intros)|refine cq aa ?_|refine cq hWA ?_|refine cq hUs ?_)
   (refine Dn.post (Hr:=[]) DZ (hR:=?_);exact⟨congrArg Value.bool (Dt rfl),rfl⟩)
  ·dsimp only[AA,AB];have aj:10*(r%12)-0<8*10:=al;have ag:α3.used=0:=Lw hW ad am;rw[hz];have hUs:=Ri ba _ ah ad.ar;rw[show({wk0 10 9000 (10*(r%12)) with α:=α3}:Wk).α.used=0 from ag] at hUs;repeat(first|(refine st ?_;intros)|refine cq aa ?_|refine cq hWA ?_|refine cq hUs ?_)
   (refine Dn.post (Hr:=[]) DZ (hR:=?_);exact⟨congrArg Value.bool (Dt rfl),rfl⟩)
 have ab:=nG ⟨0,0,a,0⟩ av (pv bw);rw[ae,hz] at ab;have ag:(wk0 10 9000 (10*(r%12))).α.used=0:=rfl;have hUs:=Ri ba _ ca hW.ar;rw[ag] at hUs;by_cases h8:r%12<8
 ·by_cases ao:a=5;rotate_left
  ·repeat(first|(refine st ?_;intros)|refine cq aa ?_|refine cq hWA ?_|refine cq hUs ?_)
   refine cL hT ?_;rintro _ _ ⟨rfl,rfl⟩;try dsimp only[AA,AB]
   repeat(first|(refine st ?_;intros)|refine cq aa ?_|refine cq hWA ?_|refine cq hUs ?_)
   refine cL ac ?_;rintro _ _ ⟨rfl,rfl⟩;try dsimp only[AA,AB]
   repeat(first|(refine st ?_;intros)|refine cq aa ?_|refine cq hWA ?_|refine cq hUs ?_)
   refine cL ab ?_;rintro _ _ ⟨rfl,rfl⟩;try dsimp only[AA,AB]
   repeat(first|(refine st ?_;intros)|refine cq aa ?_|refine cq hWA ?_|refine cq hUs ?_)
   (refine Dn.post (Hr:=[]) DZ (hR:=?_);exact⟨congrArg Value.bool (Dt rfl),rfl⟩)
  by_cases aq:b=3;rotate_left
  ·repeat(first|(refine st ?_;intros)|refine cq aa ?_|refine cq hWA ?_|refine cq hUs ?_)
   refine cL hT ?_;rintro _ _ ⟨rfl,rfl⟩;try dsimp only[AA,AB]
   repeat(first|(refine st ?_;intros)|refine cq aa ?_|refine cq hWA ?_|refine cq hUs ?_)
   refine cL ac ?_;rintro _ _ ⟨rfl,rfl⟩;try dsimp only[AA,AB]
   repeat(first|(refine st ?_;intros)|refine cq aa ?_|refine cq hWA ?_|refine cq hUs ?_)
   refine cL ab ?_;rintro _ _ ⟨rfl,rfl⟩;try dsimp only[AA,AB]
   repeat(first|(refine st ?_;intros)|refine cq aa ?_|refine cq hWA ?_|refine cq hUs ?_)
   (refine Dn.post (Hr:=[]) DZ (hR:=?_);exact⟨congrArg Value.bool (Dt rfl),rfl⟩)
  by_cases au:c=3;rotate_left
  ·repeat(first|(refine st ?_;intros)|refine cq aa ?_|refine cq hWA ?_|refine cq hUs ?_)
   refine cL hT ?_;rintro _ _ ⟨rfl,rfl⟩;try dsimp only[AA,AB]
   repeat(first|(refine st ?_;intros)|refine cq aa ?_|refine cq hWA ?_|refine cq hUs ?_)
   refine cL ac ?_;rintro _ _ ⟨rfl,rfl⟩;try dsimp only[AA,AB]
   repeat(first|(refine st ?_;intros)|refine cq aa ?_|refine cq hWA ?_|refine cq hUs ?_)
   refine cL ab ?_;rintro _ _ ⟨rfl,rfl⟩;try dsimp only[AA,AB]
   repeat(first|(refine st ?_;intros)|refine cq aa ?_|refine cq hWA ?_|refine cq hUs ?_)
   (refine Dn.post (Hr:=[]) DZ (hR:=?_);exact⟨congrArg Value.bool (Dt rfl),rfl⟩)
  have a6:d≠3:=fun h=>hw ⟨ao,aq,au,h⟩;repeat(first|(refine st ?_;intros)|refine cq aa ?_|refine cq hWA ?_|refine cq hUs ?_)
  refine cL hT ?_;rintro _ _ ⟨rfl,rfl⟩;try dsimp only[AA,AB]
  repeat(first|(refine st ?_;intros)|refine cq aa ?_|refine cq hWA ?_|refine cq hUs ?_)
  refine cL ac ?_;rintro _ _ ⟨rfl,rfl⟩;try dsimp only[AA,AB]
  repeat(first|(refine st ?_;intros)|refine cq aa ?_|refine cq hWA ?_|refine cq hUs ?_)
  refine cL ab ?_;rintro _ _ ⟨rfl,rfl⟩;try dsimp only[AA,AB]
  repeat(first|(refine st ?_;intros)|refine cq aa ?_|refine cq hWA ?_|refine cq hUs ?_)
  (refine Dn.post (Hr:=[]) DZ (hR:=?_);exact⟨congrArg Value.bool (Dt rfl),rfl⟩)
 ·by_cases ao:a=5;rotate_left
  ·repeat(first|(refine st ?_;intros)|refine cq aa ?_|refine cq hWA ?_|refine cq hUs ?_)
   refine cL hT ?_;rintro _ _ ⟨rfl,rfl⟩;try dsimp only[AA,AB]
   repeat(first|(refine st ?_;intros)|refine cq aa ?_|refine cq hWA ?_|refine cq hUs ?_)
   refine cL ac ?_;rintro _ _ ⟨rfl,rfl⟩;try dsimp only[AA,AB]
   repeat(first|(refine st ?_;intros)|refine cq aa ?_|refine cq hWA ?_|refine cq hUs ?_)
   refine cL ab ?_;rintro _ _ ⟨rfl,rfl⟩;try dsimp only[AA,AB]
   repeat(first|(refine st ?_;intros)|refine cq aa ?_|refine cq hWA ?_|refine cq hUs ?_)
   (refine Dn.post (Hr:=[]) DZ (hR:=?_);exact⟨congrArg Value.bool (Dt rfl),rfl⟩)
  by_cases aq:b=3;rotate_left
  ·repeat(first|(refine st ?_;intros)|refine cq aa ?_|refine cq hWA ?_|refine cq hUs ?_)
   refine cL hT ?_;rintro _ _ ⟨rfl,rfl⟩;try dsimp only[AA,AB]
   repeat(first|(refine st ?_;intros)|refine cq aa ?_|refine cq hWA ?_|refine cq hUs ?_)
   refine cL ac ?_;rintro _ _ ⟨rfl,rfl⟩;try dsimp only[AA,AB]
   repeat(first|(refine st ?_;intros)|refine cq aa ?_|refine cq hWA ?_|refine cq hUs ?_)
   refine cL ab ?_;rintro _ _ ⟨rfl,rfl⟩;try dsimp only[AA,AB]
   repeat(first|(refine st ?_;intros)|refine cq aa ?_|refine cq hWA ?_|refine cq hUs ?_)
   (refine Dn.post (Hr:=[]) DZ (hR:=?_);exact⟨congrArg Value.bool (Dt rfl),rfl⟩)
  by_cases au:c=3;rotate_left
  ·repeat(first|(refine st ?_;intros)|refine cq aa ?_|refine cq hWA ?_|refine cq hUs ?_)
   refine cL hT ?_;rintro _ _ ⟨rfl,rfl⟩;try dsimp only[AA,AB]
   repeat(first|(refine st ?_;intros)|refine cq aa ?_|refine cq hWA ?_|refine cq hUs ?_)
   refine cL ac ?_;rintro _ _ ⟨rfl,rfl⟩;try dsimp only[AA,AB]
   repeat(first|(refine st ?_;intros)|refine cq aa ?_|refine cq hWA ?_|refine cq hUs ?_)
   refine cL ab ?_;rintro _ _ ⟨rfl,rfl⟩;try dsimp only[AA,AB]
   repeat(first|(refine st ?_;intros)|refine cq aa ?_|refine cq hWA ?_|refine cq hUs ?_)
   (refine Dn.post (Hr:=[]) DZ (hR:=?_);exact⟨congrArg Value.bool (Dt rfl),rfl⟩)
  have a6:d≠3:=fun h=>hw ⟨ao,aq,au,h⟩;repeat(first|(refine st ?_;intros)|refine cq aa ?_|refine cq hWA ?_|refine cq hUs ?_)
  refine cL hT ?_;rintro _ _ ⟨rfl,rfl⟩;try dsimp only[AA,AB]
  repeat(first|(refine st ?_;intros)|refine cq aa ?_|refine cq hWA ?_|refine cq hUs ?_)
  refine cL ac ?_;rintro _ _ ⟨rfl,rfl⟩;try dsimp only[AA,AB]
  repeat(first|(refine st ?_;intros)|refine cq aa ?_|refine cq hWA ?_|refine cq hUs ?_)
  refine cL ab ?_;rintro _ _ ⟨rfl,rfl⟩;try dsimp only[AA,AB]
  repeat(first|(refine st ?_;intros)|refine cq aa ?_|refine cq hWA ?_|refine cq hUs ?_)
  (refine Dn.post (Hr:=[]) DZ (hR:=?_);exact⟨congrArg Value.bool (Dt rfl),rfl⟩)
end Go.Proofs.YtaofijjjheiknaaGreat
