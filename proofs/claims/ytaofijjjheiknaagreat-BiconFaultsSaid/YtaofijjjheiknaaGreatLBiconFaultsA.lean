/-
  Parts of the proof, put together: BiconFaults0. No condition.
-/
import Derived.Test.YtaofijjjheiknaaGreatQ16
set_option linter.unusedVariables false
set_option linter.unusedSimpArgs false
set_option linter.unnecessarySimpa false
set_option maxHeartbeats 4000000
open Go.IntKind renaming wrap→AL
open Go.Proofs.Tryz renaming prog→AC
open Int renaming tmod_eq_emod_of_nonneg→DO
open List renaming cons_append→AA,nil_append→AB
open Nat renaming reduceAdd→AD
open Go.Proofs.Tryz
open Go.Value renaming int→Z9
open Go.IntKind renaming i64→Z8
namespace Go.Proofs.YtaofijjjheiknaaGreat
open Go.SL Go.Spc Go.Tup Go.Srt Go.Gr
theorem Un {W:Wk} {f:Fl} {ts:List T5} (h:Ce W (f,ts)) (hs:W.δ.size=10):f.count=ts.length∧f.blocks≤f.count:=by obtain⟨L,hf,_⟩:=h;have h1:=hf.len;have h2:=hf.blk;have h3:=hf.w1;have h4:=hf.w2;dsimp only at h1 h2 h3 h4;rw[hs] at h2;exact⟨h1.symm,by rw[h2];exact Dl (Bh oM h3 h4)⟩
theorem FN (tt la:List T5) (es:List IE):(Fj tt (edT es) la).length≤es.length:=by unfold Fj;rw[Uf,Ib,Xn];have:=Xm (edT es);rw[Jy] at this;exact this
theorem FO {ro N:Nat} {es:List IE} {W:Wk} {a f e q:Fl} {lab:List Int} {fl:List Bool} {r bt:List T5} {tl:List (Nat×Fo)} {l o:List T5} (hf:∀e∈es,inE N e) (h:cQ ro N es W a f e q lab fl r bt tl l o):a.blocks+f.blocks+e.blocks+q.blocks≤3*N+es.length:=by have h1:=Un h.ia h.ons.size;have h2:=Un h.ib h.ons.size;have h3:=Un h.ic h.ons.size;have h4:=Un h.iq h.ons.size;have h5:=h.parts.for_le hf;have h6:=h.tab.len;have h7:=h.lows.len;rw[Jy] at h3;omega
theorem FP (n:Int) (p:Option Addr) (m cap:Nat) (es:List IE) (c:Aa) (hv:Rw ecl 2 p m es c) (hm:m≤maxLen) (e:Nat) (he:e<65536):CtQ AC 14 [gv n p m cap,.int .u16 (e:Int)] [c] (.bool true):=by
 have ad:=eQ0;have hz:=eQ1;have ac:=cT;have aa:=jK n p m cap es c hv hm;have ab:=jL n p m cap 12 20 hm;have b5:=hv.1;have ay:Ct AC 28 [Z9 Z8 9] [] fun v H'=>
  ∃bw bd ba bs cd ca cs,v=pv bw∧H'=[Ab bw bd ba bs,cd,ca,cs]∧Wc bd ba bs (wk0 10 9000 90) cd ca cs:=Xt 9 oM
 have e4:AL .i64 ((e:Int).tmod 4000)=((e%4000:Nat):Int):=by rw[DO oM,Ah oM];omega
 have e5:(e:Int).tmod 4000=((e%4000:Nat):Int):=by rw[DO oM];omega
 have e6:AL .i64 ((e:Int).tmod 50)=((e%50:Nat):Int):=by rw[DO oM,Ah oM];omega
 have e7:(e:Int).tmod 50=((e%50:Nat):Int):=by rw[DO oM];omega
 unfold gv at aa ab⊢;cases hfm:He n es with
 |false=>
  rw[hfm] at aa;refine cG func14 fun _=>?_;repeat(refine sA ?_;intros)
  (refine dP [c] ?_;exact⟨rfl,rfl⟩)
 |true=>
 rw[hfm] at aa;by_cases aj:n≤12∧(m:Int)≤20;rotate_left
 ·rw[Jq aj] at ab;refine cG func14 fun _=>?_;repeat(refine sA ?_;intros)
  (refine dP [c] ?_;exact⟨rfl,rfl⟩)
 rw[Dt aj] at ab;obtain⟨h0,al⟩:=nB hfm;obtain⟨N,rfl⟩:∃N:Nat,n=(N:Int):=⟨n.toNat,oM⟩
 refine cG func14 fun _=>?_;repeat(refine sA ?_;intros)
 refine cL ay ?_;rintro _ _ ⟨bw,bd,ba,bs,cd,ca,cs,rfl,rfl,hW⟩;try dsimp only[AA,AB]
 have hWD:=Tj bw bd ba bs;have ag:=cR bw bd ba bs 90 oM cd ca cs hW N oM p m cap es c hv oM al;unfold gv at ag;simp only[fl4,AA,AB,List.append_assoc] at ag;repeat(refine sA ?_;intros)
 refine cL ag ?_;rintro _ _ ⟨a6,a7,a8,W1,fa,fb,fc,fq,lab,fl,r,bt,tl,l,o,rfl,rfl,az,hL⟩;try dsimp only[AA,AB]
 have a0:=jX bd W1.δ a6 az.dev ((e%4000:Nat):Int) oM;repeat(refine sA ?_;intros)
 refine cL a0 ?_;rintro _ _ ⟨a9,rfl,rfl,bc⟩;try dsimp only[AA,AB]
 have be:=az.flt bc;have bf:=FO al hL;have am:=cS bw bd ba bs 90 oM N oM es oM al (W1.flt ((e%4000:Nat):Int)) a9 a7 a8 be fa fb fc fq (hL.ons.flt _) hL.parts hL.tab hL.lows hL.ia hL.ib hL.ic hL.iq hL.wa hL.wb hL.wc hL.wq hL.acts (by have:=cO hL.tab es fl o;omega);rw[ad,ad,ad,ad] at am;repeat(refine sA ?_;intros)
 refine cL am ?_;rintro _ _ ⟨x,er,bg,an,ao,W5,rfl,rfl,ae,bh,bi,b6,b7,hc⟩;dsimp only[AA,AB];clear hL;have aq:=fun la=>FN l la es;replace hc:(er=0∧∃b2:List T5,b2.length≤es.length∧Ce W5 (x,b2)∧x.width=2∧x.count=b2.length∧Ons 9000 90 W5 [fa,fb,fc,fq,x])∨(x=⟨0,0,0,0⟩∧W5.live.Perm (Au [fa,fb,fc,fq] [])∧er=6):=
  hc.imp (fun ⟨a,lab2,_,c1,c2,c3,c4⟩=>⟨a,_,aq _,c1,c2,c3,c4⟩) fun ⟨a,b,c,_⟩=>⟨a,b,c⟩
 clear aq;rcases hc with⟨rfl,bo,aq,au,bk,b8,av⟩|⟨rfl,bp,rfl⟩
 rotate_left
 ·have aw:=Xq (fs:=[fa,fb,fc,fq]) ae bp bi;have ah:∀b':Nat,Bc W5.σ.free+Gt [fa,fb,fc,fq]=9000→CtQ AC 37 [pv bw,.slice (some ⟨b',0,none⟩) 4 4] [Ab bw bd ba bs,an,ao,[(b',row [Z9 Z8 fa.first,Z9 Z8 fa.blocks,Z9 Z8 fa.width,Z9 Z8 fa.count,Z9 Z8 fb.first,Z9 Z8 fb.blocks,Z9 Z8 fb.width,Z9 Z8 fb.count,Z9 Z8 fc.first,Z9 Z8 fc.blocks,Z9 Z8 fc.width,Z9 Z8 fc.count,Z9 Z8 fq.first,Z9 Z8 fq.blocks,Z9 Z8 fq.width,Z9 Z8 fq.count] 43)]] (.bool true):=fun b' ht=>
   cP bw bd ba bs W5 an ao ae.ar ae.sp (some ⟨b',0,none⟩) 4 4 [fa,fb,fc,fq] _ ⟨rfl,.inr ⟨b',0,_,_,_,rfl,rfl,rfl⟩⟩ oM bh ht
  rw[hz];repeat(refine sA ?_;intros)
  refine R.sliceA (hx:=rfl) (hc:=rfl) (hn:=nle rfl) ?_;repeat(refine sA ?_;intros)
  refine cL (ah _ aw) ?_;rintro _ _ ⟨rfl,rfl⟩;repeat(refine sA ?_;intros)
  (refine dP [c] ?_;exact⟨rfl,rfl⟩)
 clear a0 am ag aa ab ay;have ak:=jX bd W5.δ bg ae.dev ((e%50:Nat):Int) oM;rw[ad];repeat(refine sA ?_;intros)
 refine cL ak ?_;rintro _ _ ⟨bq,rfl,rfl,a1⟩;try dsimp only[AA,AB]
 have bu:=ae.flt a1;obtain⟨_,bv⟩:=av.tot;simp only[List.map_cons,List.map_nil,List.sum_cons,List.sum_nil] at bv;have bz:=Un au av.size;have ax:=nH bw bd ba bs 90 oM (W5.flt ((e%50:Nat):Int)) bq an ao bu fa fb fc fq x (av.flt _) bo au bk oM (by show W5.δ.acts≤_;omega) (by show Bc W5.live≤_;omega);rw[ad] at ax;repeat(refine sA ?_;intros)
 refine cL ax ?_;rintro _ _ ⟨y,b9,cg,a2,a3,W7,rfl,rfl,ai,b1,a4,ci,cj,a5⟩;dsimp only[AA,AB];have ah:∀b':Nat,Bc W7.σ.free+Gt [fa,fb,fc,fq,x,y]=9000→CtQ AC 37 [pv bw,.slice (some ⟨b',0,none⟩) 6 6] [Ab bw bd ba bs,a2,a3,[(b',row [Z9 Z8 fa.first,Z9 Z8 fa.blocks,Z9 Z8 fa.width,Z9 Z8 fa.count,Z9 Z8 fb.first,Z9 Z8 fb.blocks,Z9 Z8 fb.width,Z9 Z8 fb.count,Z9 Z8 fc.first,Z9 Z8 fc.blocks,Z9 Z8 fc.width,Z9 Z8 fc.count,Z9 Z8 fq.first,Z9 Z8 fq.blocks,Z9 Z8 fq.width,Z9 Z8 fq.count,Z9 Z8 x.first,Z9 Z8 x.blocks,Z9 Z8 x.width,Z9 Z8 x.count,Z9 Z8 y.first,Z9 Z8 y.blocks,Z9 Z8 y.width,Z9 Z8 y.count] 42)]] (.bool true):=fun b' ht=>
  cP bw bd ba bs W7 a2 a3 ai.ar ai.sp (some ⟨b',0,none⟩) 6 6 [fa,fb,fc,fq,x,y] _ ⟨rfl,.inr ⟨b',0,_,_,_,rfl,rfl,rfl⟩⟩ oM b1 ht
 clear ax ak bz au bf;generalize Lk bo=oo at a5;rcases a5 with⟨rfl,_,_,_,b3⟩|⟨rfl,b4,rfl,cm⟩
 ·have ht:=Xq (fs:=[fa,fb,fc,fq,x,y]) ai b3.live a4;rw[ad];iterate 63 (first|(refine st ?_;intros))
  refine R.buildSlice (cs:=[Z9 Z8 fa.first,Z9 Z8 fa.blocks,Z9 Z8 fa.width,Z9 Z8 fa.count,Z9 Z8 fb.first,Z9 Z8 fb.blocks,Z9 Z8 fb.width,Z9 Z8 fb.count,Z9 Z8 fc.first,Z9 Z8 fc.blocks,Z9 Z8 fc.width,Z9 Z8 fc.count,Z9 Z8 fq.first,Z9 Z8 fq.blocks,Z9 Z8 fq.width,Z9 Z8 fq.count,Z9 Z8 x.first,Z9 Z8 x.blocks,Z9 Z8 x.width,Z9 Z8 x.count,Z9 Z8 y.first,Z9 Z8 y.blocks,Z9 Z8 y.width,Z9 Z8 y.count]) (cs':=[Z9 Z8 fa.first,Z9 Z8 fa.blocks,Z9 Z8 fa.width,Z9 Z8 fa.count,Z9 Z8 fb.first,Z9 Z8 fb.blocks,Z9 Z8 fb.width,Z9 Z8 fb.count,Z9 Z8 fc.first,Z9 Z8 fc.blocks,Z9 Z8 fc.width,Z9 Z8 fc.count,Z9 Z8 fq.first,Z9 Z8 fq.blocks,Z9 Z8 fq.width,Z9 Z8 fq.count,Z9 Z8 x.first,Z9 Z8 x.blocks,Z9 Z8 x.width,Z9 Z8 x.count,Z9 Z8 y.first,Z9 Z8 y.blocks,Z9 Z8 y.width,Z9 Z8 y.count]) (hx:=rfl) (hf:=by kernel_rfl) (heq:=rfl) (h:=?_);intro b';repeat(refine sA ?_;intros)
  refine cL (ah _ ht) ?_;rintro _ _ ⟨rfl,rfl⟩;repeat(refine sA ?_;intros)
  (refine dP [c] ?_;exact⟨rfl,rfl⟩)
 ·have aw:=Xq (fs:=[fa,fb,fc,fq,x]) ai b4 a4;have ht:Bc W7.σ.free+Gt [fa,fb,fc,fq,x,⟨0,0,0,0⟩]=9000:=by rw[←aw];simp[Gt]
  rw[hz];iterate 72 (first|(refine st ?_;intros))
  refine R.buildSlice (cs:=[Z9 Z8 fa.first,Z9 Z8 fa.blocks,Z9 Z8 fa.width,Z9 Z8 fa.count,Z9 Z8 fb.first,Z9 Z8 fb.blocks,Z9 Z8 fb.width,Z9 Z8 fb.count,Z9 Z8 fc.first,Z9 Z8 fc.blocks,Z9 Z8 fc.width,Z9 Z8 fc.count,Z9 Z8 fq.first,Z9 Z8 fq.blocks,Z9 Z8 fq.width,Z9 Z8 fq.count,Z9 Z8 x.first,Z9 Z8 x.blocks,Z9 Z8 x.width,Z9 Z8 x.count,Z9 Z8 0,Z9 Z8 0,Z9 Z8 0,Z9 Z8 0]) (cs':=[Z9 Z8 fa.first,Z9 Z8 fa.blocks,Z9 Z8 fa.width,Z9 Z8 fa.count,Z9 Z8 fb.first,Z9 Z8 fb.blocks,Z9 Z8 fb.width,Z9 Z8 fb.count,Z9 Z8 fc.first,Z9 Z8 fc.blocks,Z9 Z8 fc.width,Z9 Z8 fc.count,Z9 Z8 fq.first,Z9 Z8 fq.blocks,Z9 Z8 fq.width,Z9 Z8 fq.count,Z9 Z8 x.first,Z9 Z8 x.blocks,Z9 Z8 x.width,Z9 Z8 x.count,Z9 Z8 0,Z9 Z8 0,Z9 Z8 0,Z9 Z8 0]) (hx:=rfl) (hf:=by kernel_rfl) (heq:=rfl) (h:=?_);intro b';repeat(refine sA ?_;intros)
  refine cL (ah _ ht) ?_;rintro _ _ ⟨rfl,rfl⟩;repeat(refine sA ?_;intros)
  (refine dP [c] ?_;exact⟨rfl,rfl⟩)
end Go.Proofs.YtaofijjjheiknaaGreat
