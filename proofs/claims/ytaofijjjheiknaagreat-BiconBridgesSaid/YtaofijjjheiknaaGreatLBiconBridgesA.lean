/-
  Parts of the proof, put together: BiconBridges0. No condition.
-/
import Derived.Test.YtaofijjjheiknaaGreatQ16
set_option linter.unusedVariables false
set_option linter.unusedSimpArgs false
set_option linter.unnecessarySimpa false
set_option maxHeartbeats 4000000
open Go.Proofs.Tryz renaming prog→AC
open List renaming cons_append→AA,nil_append→AB
open Nat renaming reduceAdd→AD
open Go.Proofs.Tryz
open Go.Value renaming int→Z9
open Go.IntKind renaming i64→Z8
namespace Go.Proofs.YtaofijjjheiknaaGreat
open Go.SL Go.Spc Go.Tup Go.Srt Go.Gr
theorem Uo {W:Wk} {f:Fl} {ts:List T5} (h:Ce W (f,ts)) (hs:W.δ.size=10):f.count=ts.length∧f.blocks≤f.count:=by obtain⟨L,hf,_⟩:=h;have h1:=hf.len;have h2:=hf.blk;have h3:=hf.w1;have h4:=hf.w2;dsimp only at h1 h2 h3 h4;rw[hs] at h2;exact⟨h1.symm,by rw[h2];exact Dl (Bh oM h3 h4)⟩
theorem nQ (tt la:List T5) (es:List IE):(Fj tt (edT es) la).length≤es.length:=by unfold Fj;rw[Uf,Ib,Xn];have:=Xm (edT es);rw[Jy] at this;exact this
theorem FV {ro N:Nat} {es:List IE} {W:Wk} {a f e q:Fl} {lab:List Int} {fl:List Bool} {r bt:List T5} {tl:List (Nat×Fo)} {l o:List T5} (hf:∀e∈es,inE N e) (h:cQ ro N es W a f e q lab fl r bt tl l o):a.blocks+f.blocks+e.blocks+q.blocks≤3*N+es.length:=by have h1:=Uo h.ia h.ons.size;have h2:=Uo h.ib h.ons.size;have h3:=Uo h.ic h.ons.size;have h4:=Uo h.iq h.ons.size;have h5:=h.parts.for_le hf;have h6:=h.tab.len;have h7:=h.lows.len;rw[Jy] at h3;omega
theorem FW (n:Int) (p:Option Addr) (m cap:Nat) (es:List IE) (c:Aa) (hv:Rw ecl 2 p m es c) (hm:m≤maxLen):CtQ AC 13 [gv n p m cap] [c] (.bool true):=by
 have ab:=eQ0;have ac:=cT;have a9:=hv.1;have aa:=EX n p m cap es c hv hm;have bc:Ct AC 28 [Z9 Z8 9] [] fun v H'=>
  ∃bw bd ba bs cd ca cs,v=pv bw∧H'=[Ab bw bd ba bs,cd,ca,cs]∧Wc bd ba bs (wk0 10 9000 90) cd ca cs:=Xt 9 oM
 by_cases hs:He n es=true∧n≤24∧(m:Int)≤45;rotate_left
 ·have aa:=aa false (by
   cases hfm:He n es with
   |false=>rfl
   |true=>rw[Bool.true_and,decide_eq_false fun h=>hs ⟨hfm,h⟩])
  unfold gv at aa⊢;refine cG func13 fun _=>?_;repeat(refine sA ?_;intros)
  (refine dP [c] ?_;exact⟨rfl,rfl⟩)
 obtain⟨hfm,av⟩:=hs;have aa:=aa true (by rw[hfm,Bool.true_and,decide_eq_true av]);obtain⟨h0,ad⟩:=nB hfm;obtain⟨N,rfl⟩:∃N:Nat,n=(N:Int):=⟨n.toNat,oM⟩
 have aw:=FD N oM p m cap es c hv oM ad;obtain⟨ls,hA⟩:=ap_ex N es;unfold gv at aa aw⊢;refine cG func13 fun _=>?_;repeat(refine sA ?_;intros)
 refine cL bc ?_;rintro _ _ ⟨bw,bd,ba,bs,cd,ca,cs,rfl,rfl,hW⟩;try dsimp only[AA,AB]
 have ae:=cR bw bd ba bs 90 oM cd ca cs hW N oM p m cap es c hv oM ad;unfold gv at ae;simp only[fl4,AA,AB,List.append_assoc] at ae;repeat(refine sA ?_;intros)
 refine cL ae ?_;rintro _ _ ⟨be,bf,bg,W1,fa,fb,fc,fq,lab,fl,r,bt,tl,l,o,rfl,rfl,bh,hL⟩;try dsimp only[AA,AB]
 have cz:=FV ad hL;have al:=cS bw bd ba bs 90 oM N oM es oM ad W1 be bf bg bh fa fb fc fq hL.ons hL.parts hL.tab hL.lows hL.ia hL.ib hL.ic hL.iq hL.wa hL.wb hL.wc hL.wq hL.acts (by have:=cO hL.tab es fl o;omega);rw[ab,ab,ab,ab] at al;have hX:BcX N es ls lab fl r bt tl l:=⟨hA,ad,hL.parts,hL.tab,oM⟩
 have ax:=hL.lows;have ay:=hL.fault;have az:∀lab2,En (gE (peB es fl l o)) (fun i=>i<(peB es fl l o).length) N (-1) lab2→∀bs,Ih es es.length bs→Lk (Fj l (edT es) (Ay lab2))=bs:=fun lab2 h2 bs hB=>FF hX ax oM h2 hB (nQ _ _ _);have am:=fun la=>nQ l la es;clear hL hX ax;repeat(refine sA ?_;intros)
 refine cL al ?_;rintro _ _ ⟨x,er,bi,bk,bp,W5,rfl,rfl,bq,c5,c6,c7,ag,hc⟩;dsimp only[AA,AB];replace hc:er=0∧∃b2:List T5,b2.length≤es.length∧Ce W5 (x,b2)∧x.width=2∧x.count=b2.length∧Ons 9000 90 W5 [fa,fb,fc,fq,x]∧∀bs,Ih es es.length bs→Lk b2=bs:=by
  rcases hc with⟨a,lab2,h2,c1,c2,c3,c4⟩|⟨_,_,_,hr⟩
  ·exact⟨a,_,am _,c1,c2,c3,c4,az lab2 h2⟩
  ·exact absurd ay hr
 clear am az;obtain⟨rfl,bo,am,a0,bu,c8,an,ah⟩:=hc;have ag:=ag ay;obtain⟨_,bv⟩:=an.tot;simp only[List.map_cons,List.map_nil,List.sum_cons,List.sum_nil] at bv;have c9:=Uo a0 an.size;have ai:=nH bw bd ba bs 90 oM W5 bi bk bp bq fa fb fc fq x an bo a0 bu oM oM oM;obtain⟨oo,a1⟩:∃oo,Lk bo=oo:=⟨_,rfl⟩
 rw[a1] at ai ah;rw[ab] at ai;rw[ab x];repeat(refine sA ?_;intros)
 refine cL ai ?_;rintro _ _ ⟨y,da,bz,b1,ao,W7,rfl,rfl,a2,b3,b4,b5,db,b6⟩;dsimp only[AA,AB];rcases b6 with⟨rfl,b7,dc,a3,aj⟩|⟨_,_,_,b8⟩
 rotate_left
 ·exact absurd ag b8
 clear a1 al ae ai;have dd:y.count≤1000:=by obtain⟨a4,a5⟩:∃bs,Ih es es.length bs:=nP es _;have h1:=ah _ a5;have h2:=a5.len;rw[←h1] at h2;omega
 obtain⟨LvX,a6,aq⟩:=b7;have au:=fL bw bd ba bs W7 bz b1 ao a2 y _ LvX a6 aq (by rw[aj.size,aj.room,aj.used];omega) (b5 ag) oM oM;rw[ab y] at au;rw[ab y];repeat(refine sA ?_;intros)
 refine cL au ?_;rintro _ _ ⟨de,a7,W8,po,oc,cho,rfl,rfl,ak,b9,df,cg,ci,cj⟩;try dsimp only[AA,AB]
 have ht:=Xq (fs:=[fa,fb,fc,fq,x,y]) ak (by rw[cg];exact aj.live) (b9.n.trans b4);have cm:=(Lw a2 ak ci).trans b3;have cu:∀b':Nat,CtQ AC 37 [pv bw,.slice (some ⟨b',0,none⟩) 6 6] [Ab bw bd ba bs,a7,ao,[(b',row [Z9 Z8 fa.first,Z9 Z8 fa.blocks,Z9 Z8 fa.width,Z9 Z8 fa.count,Z9 Z8 fb.first,Z9 Z8 fb.blocks,Z9 Z8 fb.width,Z9 Z8 fb.count,Z9 Z8 fc.first,Z9 Z8 fc.blocks,Z9 Z8 fc.width,Z9 Z8 fc.count,Z9 Z8 fq.first,Z9 Z8 fq.blocks,Z9 Z8 fq.width,Z9 Z8 fq.count,Z9 Z8 x.first,Z9 Z8 x.blocks,Z9 Z8 x.width,Z9 Z8 x.count,Z9 Z8 y.first,Z9 Z8 y.blocks,Z9 Z8 y.width,Z9 Z8 y.count] 42)]] (.bool true):=fun b'=>
  cP bw bd ba bs W8 a7 ao ak.ar ak.sp (some ⟨b',0,none⟩) 6 6 [fa,fb,fc,fq,x,y] _ ⟨rfl,.inr ⟨b',0,_,_,_,rfl,rfl,rfl⟩⟩ oM cm ht
 clear au;repeat(refine sA ?_;intros)
 refine cL aw ?_;rintro _ _ ⟨pb,kb,cb,a4,rfl,rfl,cv,hB⟩;try dsimp only[AA,AB]
 have cw:oo=a4:=ah _ (by rw[a9];exact hB);clear ah;subst cw;have a8:RV po oo.length oo cho:=by rw[←a3];exact RV.vec cj
 have hSa:CtQ AC 29 [.slice po y.count oc,.slice pb oo.length kb] [cho,cb] (.bool true):=by have h:=tU po oo.length oc oo cho a8 oM pb oo.length kb oo cb cv;rw[decide_eq_true rfl] at h;rw[a3];exact h
 iterate 29 (first|(refine st ?_;intros)|refine cq hSa ?_)
 refine R.buildSlice (cs:=[Z9 Z8 fa.first,Z9 Z8 fa.blocks,Z9 Z8 fa.width,Z9 Z8 fa.count,Z9 Z8 fb.first,Z9 Z8 fb.blocks,Z9 Z8 fb.width,Z9 Z8 fb.count,Z9 Z8 fc.first,Z9 Z8 fc.blocks,Z9 Z8 fc.width,Z9 Z8 fc.count,Z9 Z8 fq.first,Z9 Z8 fq.blocks,Z9 Z8 fq.width,Z9 Z8 fq.count,Z9 Z8 x.first,Z9 Z8 x.blocks,Z9 Z8 x.width,Z9 Z8 x.count,Z9 Z8 y.first,Z9 Z8 y.blocks,Z9 Z8 y.width,Z9 Z8 y.count]) (cs':=[Z9 Z8 fa.first,Z9 Z8 fa.blocks,Z9 Z8 fa.width,Z9 Z8 fa.count,Z9 Z8 fb.first,Z9 Z8 fb.blocks,Z9 Z8 fb.width,Z9 Z8 fb.count,Z9 Z8 fc.first,Z9 Z8 fc.blocks,Z9 Z8 fc.width,Z9 Z8 fc.count,Z9 Z8 fq.first,Z9 Z8 fq.blocks,Z9 Z8 fq.width,Z9 Z8 fq.count,Z9 Z8 x.first,Z9 Z8 x.blocks,Z9 Z8 x.width,Z9 Z8 x.count,Z9 Z8 y.first,Z9 Z8 y.blocks,Z9 Z8 y.width,Z9 Z8 y.count]) (hx:=rfl) (hf:=by kernel_rfl) (heq:=rfl) (h:=?_);intro b';repeat(refine sA ?_;intros)
 refine cL (cu _) ?_;rintro _ _ ⟨rfl,rfl⟩;repeat(refine sA ?_;intros)
 (refine dP [c] ?_;exact⟨rfl,rfl⟩)
end Go.Proofs.YtaofijjjheiknaaGreat
