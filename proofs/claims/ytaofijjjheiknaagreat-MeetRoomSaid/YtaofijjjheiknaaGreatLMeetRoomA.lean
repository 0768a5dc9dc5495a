/-
  Parts of the proof, put together: MeetRoom0. No condition.
-/
import Derived.Test.YtaofijjjheiknaaGreatM16
set_option linter.unusedVariables false
set_option linter.unusedSimpArgs false
set_option linter.unnecessarySimpa false
set_option maxHeartbeats 4000000
open Go.IntKind renaming wrap→AJ
open Go.Proofs.Tryz renaming prog→AC
open Int renaming tmod_eq_emod_of_nonneg→CX
open List renaming cons_append→AA,nil_append→AB
open Nat renaming zero_le→AS
namespace Go.Proofs.YtaofijjjheiknaaGreat
open Go.SL Go.Spc Go.Tup Go.Srt
def wdr (a b c d:Nat):Nat→List Value
 |0=>[.int .i64 0,.int .i64 0,.int .i64 0,.int .i64 0,.int .i64 0,.int .i64 0,.int .i64 0,.int .i64 0,.int .i64 0,.int .i64 0,.int .i64 0,.int .i64 0,.int .i64 0,.int .i64 0,.int .i64 0,.int .i64 0]
 |1=>[.int .i64 0,.int .i64 0,.int .i64 (a:Int),.int .i64 0,.int .i64 0,.int .i64 0,.int .i64 0,.int .i64 0,.int .i64 0,.int .i64 0,.int .i64 0,.int .i64 0,.int .i64 0,.int .i64 0,.int .i64 0,.int .i64 0]
 |2=>[.int .i64 0,.int .i64 0,.int .i64 (a:Int),.int .i64 0,.int .i64 0,.int .i64 0,.int .i64 (b:Int),.int .i64 0,.int .i64 0,.int .i64 0,.int .i64 0,.int .i64 0,.int .i64 0,.int .i64 0,.int .i64 0,.int .i64 0]
 |3=>[.int .i64 0,.int .i64 0,.int .i64 (a:Int),.int .i64 0,.int .i64 0,.int .i64 0,.int .i64 (b:Int),.int .i64 0,.int .i64 0,.int .i64 0,.int .i64 (c:Int),.int .i64 0,.int .i64 0,.int .i64 0,.int .i64 0,.int .i64 0]
 |_=>[.int .i64 0,.int .i64 0,.int .i64 (a:Int),.int .i64 0,.int .i64 0,.int .i64 0,.int .i64 (b:Int),.int .i64 0,.int .i64 0,.int .i64 0,.int .i64 (c:Int),.int .i64 0,.int .i64 0,.int .i64 0,.int .i64 (d:Int),.int .i64 0]
theorem MeetRoom_ct (r:Nat) (hr:r<256) (a0 a1 a2 a3:Nat) (h0:a0<256) (h1:a1<256) (h2:a2<256) (h3:a3<256):CtQ AC 4 [.int .u8 (r:Int),.agg #[.int .u8 (a0:Int),.int .u8 (a1:Int),.int .u8 (a2:Int),.int .u8 (a3:Int)]] [] (.bool true):=by
 have aa:=aJa
 have aj:=aJq (r%12) oM
 have e1:AJ .i64 ((r:Int).tmod 12)=((r%12:Nat):Int):=by rw[CX oM,aAd oM];omega
 have e2:(r:Int).tmod 12=((r%12:Nat):Int):=by rw[CX oM];omega
 have e3:∀a:Nat,a<256→AJ .i64 ((a:Int).tmod 5)=((a%5:Nat):Int):=fun a ha=>by rw[CX oM,aAd oM];omega
 have e4:∀a:Nat,AJ .i64 ((1:Int)+((a%5:Nat):Int))=((1+a%5:Nat):Int):=fun a=>by rw[aAd oM];omega
 have f0:=e3 a0 h0;have f1:=e3 a1 h1;have f2:=e3 a2 h2;have f3:=e3 a3 h3;have g0:=e4 a0;have g1:=e4 a1;have g2:=e4 a2;have g3:=e4 a3
 have ab:∀a:Nat,flv ⟨0,0,a,0⟩= .agg #[.int .i64 0,.int .i64 0,.int .i64 (a:Int),.int .i64 0]:=fun _=>rfl
 have hz:=eQ1
 have ac:CtQ AC 21 [.pointer none,.agg #[.int .i64 0,.int .i64 0,.int .i64 2,.int .i64 0],.agg #[.int .i64 0,.int .i64 0,.int .i64 5,.int .i64 0],.agg #[.int .i64 0,.int .i64 0,.int .i64 5,.int .i64 0],.agg #[.int .i64 0,.int .i64 0,.int .i64 3,.int .i64 0]] [] (.tuple #[.agg #[.int .i64 0,.int .i64 0,.int .i64 0,.int .i64 0],.int .i64 1]):=bKn ⟨0,0,2,0⟩ ⟨0,0,5,0⟩ ⟨0,0,5,0⟩ ⟨0,0,3,0⟩ rfl rfl rfl rfl
 generalize ha:1+a0%5=a at*
 generalize hb:1+a1%5=b at*
 generalize hc:1+a2%5=c at*
 generalize hd:1+a3%5=d at*
 refine Ct.intro Tryz.func4 rfl Tryz.ntmps4 (nle rfl) fun w0=> ?_;dsimp only[aAa,Nat.reduceAdd]
 repeat(first|(refine st ?_;intros)|refine cq aa ?_|refine cq hWA ?_|refine cq hUs ?_)
 refine R.call (hct:=aj) (h:= ?_)
 rintro _ _ ⟨bw,bd,ba,bs,cd,ca,cs,rfl,rfl,hW⟩
 try dsimp only[AA,AB]
 have hWA:=aGy bw bd ba bs
 repeat(first|(refine st ?_;intros)|refine cq aa ?_|refine cq hWA ?_|refine cq hUs ?_)
 rename_i b3 b6
 refine G.loop (X:=Nat) (fun i=>i≤4) (fun i=>[(7,.int .i64 (i:Int)),(6,pv b6),(5,pv bw),(3,pv b3),(0,.int .u8 (r:Int))])
  (fun i=>[[(b6,row (wdr a b c d i) 43)],aAi bw bd ba bs,cd,ca,cs,[(b3,row [.int .u8 (a0:Int),.int .u8 (a1:Int),.int .u8 (a2:Int),.int .u8 (a3:Int)] 40)]]) (fun i=>4-i) 0 (AS _) (body:= ?_)
 intro i hi
 by_cases au:i<4
 ·obtain rfl|rfl|rfl|rfl:i=0∨i=1∨i=2∨i=3:=by omega
  ·dsimp only[wdr]
   repeat(first|(refine st ?_;intros)|refine cq aa ?_|refine cq hWA ?_|refine cq hUs ?_)
   refine Dn.round 1 oM oM
  ·dsimp only[wdr]
   repeat(first|(refine st ?_;intros)|refine cq aa ?_|refine cq hWA ?_|refine cq hUs ?_)
   refine Dn.round 2 oM oM
  ·dsimp only[wdr]
   repeat(first|(refine st ?_;intros)|refine cq aa ?_|refine cq hWA ?_|refine cq hUs ?_)
   refine Dn.round 3 oM oM
  ·dsimp only[wdr]
   repeat(first|(refine st ?_;intros)|refine cq aa ?_|refine cq hWA ?_|refine cq hUs ?_)
   refine Dn.round 4 oM oM
 obtain rfl:i=4:=by omega
 dsimp only[wdr]
 by_cases hw:a=2∧b=5∧c=5∧d=3
 ·obtain⟨rfl,rfl,rfl,rfl⟩:=hw
  have hT:=bCl bw bd ba bs _ cd ca cs hW ⟨0,0,2,0⟩ ⟨0,0,5,0⟩ ⟨0,0,5,0⟩ ⟨0,0,3,0⟩ [] [] [] [] (aLm hW.dev oM oM) (aLm hW.dev oM oM) (aLm hW.dev oM oM) (aLm hW.dev oM oM) rfl rfl rfl rfl oA15 oA15 oA15 2 10 oA14 oA14 oA14 oA14 oA14 (by decide+kernel) oA14 (by show 10*(0+10)+(9*2+0)≤9000;omega) (by show 10*(0+12)+(2*2+(9*2+0))≤9000;omega) (AS _)
  rw[show aZs [] [] [] [] (⟨0,0,2,0⟩:Fl).count=none by decide+kernel] at hT
  rw[ab,ab,ab] at hT
  repeat(first|(refine st ?_;intros)|refine cq aa ?_|refine cq hWA ?_|refine cq hUs ?_)
  refine R.call (hct:=hT) (h:= ?_)
  rintro _ _ (⟨ak,x,e,av,ag,aw,W3,rfl,rfl,ad,ah,ax⟩|⟨al,rfl,ag,α3,rfl,ad,am,ay⟩)
  ·dsimp only[AA,AB]
   obtain⟨rfl,_⟩:=bFd ah rfl
   have ai:8*10≤10*(r%12)-0:=ak
   have ae:W3.α.used=0:=aKg hW ad ah.gs
   have an:flv x= .agg #[.int .i64 (x.first:Int),.int .i64 (x.blocks:Int),.int .i64 (x.width:Int),.int .i64 (x.count:Int)]:=rfl
   rw[an]
   have hUs:=bLm ba _ ag ad.ar
   rw[ae] at hUs
   repeat(first|(refine st ?_;intros)|refine cq aa ?_|refine cq hWA ?_|refine cq hUs ?_)
   refine R.call (hct:=ac) (h:= ?_)
   rintro _ _ ⟨rfl,rfl⟩
   try dsimp only[AA,AB]
   repeat(first|(refine st ?_;intros)|refine cq aa ?_|refine cq hWA ?_|refine cq hUs ?_)
   (refine Dn.post (Hr:=[]) Tryz.results4 (hR:= ?_);exact⟨congrArg Value.bool (aBf rfl),rfl⟩)
  ·dsimp only[AA,AB]
   have ai:10*(r%12)-0<8*10:=al
   have ae:α3.used=0:=aKg hW ad am
   rw[hz]
   have hUs:=bLm ba _ ag ad.ar
   rw[show({wk0 10 9000 (10*(r%12)) with α:=α3}:Wk).α.used=0 from ae] at hUs
   repeat(first|(refine st ?_;intros)|refine cq aa ?_|refine cq hWA ?_|refine cq hUs ?_)
   refine R.call (hct:=ac) (h:= ?_)
   rintro _ _ ⟨rfl,rfl⟩
   try dsimp only[AA,AB]
   repeat(first|(refine st ?_;intros)|refine cq aa ?_|refine cq hWA ?_|refine cq hUs ?_)
   (refine Dn.post (Hr:=[]) Tryz.results4 (hR:= ?_);exact⟨congrArg Value.bool (aBf rfl),rfl⟩)
 ·have hT:=bAn ⟨0,0,a,0⟩ ⟨0,0,b,0⟩ ⟨0,0,c,0⟩ ⟨0,0,d,0⟩ hw (pv bw)
  rw[ab,ab,ab,ab,hz] at hT
  have ae:(wk0 10 9000 (10*(r%12))).α.used=0:=rfl
  have hUs:=bLm ba _ ca hW.ar
  rw[ae] at hUs
  by_cases ao:a=2
  rotate_left
  ·repeat(first|(refine st ?_;intros)|refine cq aa ?_|refine cq hWA ?_|refine cq hUs ?_)
   refine R.call (hct:=hT) (h:= ?_)
   rintro _ _ ⟨rfl,rfl⟩
   try dsimp only[AA,AB]
   repeat(first|(refine st ?_;intros)|refine cq aa ?_|refine cq hWA ?_|refine cq hUs ?_)
   refine R.call (hct:=ac) (h:= ?_)
   rintro _ _ ⟨rfl,rfl⟩
   try dsimp only[AA,AB]
   repeat(first|(refine st ?_;intros)|refine cq aa ?_|refine cq hWA ?_|refine cq hUs ?_)
   (refine Dn.post (Hr:=[]) Tryz.results4 (hR:= ?_);exact⟨congrArg Value.bool (aBf rfl),rfl⟩)
  by_cases ap:b=5
  rotate_left
  ·repeat(first|(refine st ?_;intros)|refine cq aa ?_|refine cq hWA ?_|refine cq hUs ?_)
   refine R.call (hct:=hT) (h:= ?_)
   rintro _ _ ⟨rfl,rfl⟩
   try dsimp only[AA,AB]
   repeat(first|(refine st ?_;intros)|refine cq aa ?_|refine cq hWA ?_|refine cq hUs ?_)
   refine R.call (hct:=ac) (h:= ?_)
   rintro _ _ ⟨rfl,rfl⟩
   try dsimp only[AA,AB]
   repeat(first|(refine st ?_;intros)|refine cq aa ?_|refine cq hWA ?_|refine cq hUs ?_)
   (refine Dn.post (Hr:=[]) Tryz.results4 (hR:= ?_);exact⟨congrArg Value.bool (aBf rfl),rfl⟩)
  by_cases aq:c=5
  rotate_left
  ·repeat(first|(refine st ?_;intros)|refine cq aa ?_|refine cq hWA ?_|refine cq hUs ?_)
   refine R.call (hct:=hT) (h:= ?_)
   rintro _ _ ⟨rfl,rfl⟩
   try dsimp only[AA,AB]
   repeat(first|(refine st ?_;intros)|refine cq aa ?_|refine cq hWA ?_|refine cq hUs ?_)
   refine R.call (hct:=ac) (h:= ?_)
   rintro _ _ ⟨rfl,rfl⟩
   try dsimp only[AA,AB]
   repeat(first|(refine st ?_;intros)|refine cq aa ?_|refine cq hWA ?_|refine cq hUs ?_)
   (refine Dn.post (Hr:=[]) Tryz.results4 (hR:= ?_);exact⟨congrArg Value.bool (aBf rfl),rfl⟩)
  have az:d≠3:=fun h=>hw ⟨ao,ap,aq,h⟩
  repeat(first|(refine st ?_;intros)|refine cq aa ?_|refine cq hWA ?_|refine cq hUs ?_)
  refine R.call (hct:=hT) (h:= ?_)
  rintro _ _ ⟨rfl,rfl⟩
  try dsimp only[AA,AB]
  repeat(first|(refine st ?_;intros)|refine cq aa ?_|refine cq hWA ?_|refine cq hUs ?_)
  refine R.call (hct:=ac) (h:= ?_)
  rintro _ _ ⟨rfl,rfl⟩
  try dsimp only[AA,AB]
  repeat(first|(refine st ?_;intros)|refine cq aa ?_|refine cq hWA ?_|refine cq hUs ?_)
  (refine Dn.post (Hr:=[]) Tryz.results4 (hR:= ?_);exact⟨congrArg Value.bool (aBf rfl),rfl⟩)
end Go.Proofs.YtaofijjjheiknaaGreat
