/-
  Parts of the proof, put together (16). No condition.
-/
import Derived.Below
import Derived.Carry
import Derived.OpenShut
import Derived.ProofKit
import Derived.Test.YtaofijjjheiknaaGreatRows
import Derived.Deep.SlicePairs
import Derived.Deep.Slices
import Derived.Test.YtaofijjjheiknaaGreatQ15
set_option linter.unusedVariables false
set_option linter.unusedSimpArgs false
set_option linter.unnecessarySimpa false
set_option maxHeartbeats 4000000
open Classical renaming byContradiction→BX
open Go.IntKind renaming wrap→AL
open Go.Proofs.Tryz renaming prog→AC
open Int renaming toNat_of_nonneg→DK
open List renaming cons_append→AA,nil_append→AB,mem_cons_self→AE,mem_cons_of_mem→AF,getElem?_eq_getElem→AG,length_append→AH,length_cons→AJ,getElem?_eq_some_iff→AK,mem_cons→AM,mem_map→AN,length_nil→AO,append_nil→AQ,length_map→AR,mem_append→AS,append_assoc→AT,mem_singleton→AW,flatten_cons→AX,mem_of_getElem?→AY,flatten_nil→A4,take_of_length_le→A6,flatMap_cons→A7,mem_append_right→BK,mem_append_left→BN,mem_filter→BQ,getElem?_drop→BS,replicate→BT,pairwise_append→B8,drop_zero→CX,filter_eq_nil_iff→DR
open Nat renaming reduceAdd→AD,le_refl→AI,zero_le→AU,add_zero→B7,mul_le_mul_left→CF
open Option.some renaming inj→BC,injEq→BG
open Go.Proofs.Tryz
open Go.Value renaming int→Z9
open Go.IntKind renaming i64→Z8
namespace Go.Proofs.YtaofijjjheiknaaGreat
open Go.SL Go.Spc Go.Tup Go.Srt Go.Gr
structure cQ (ro N:Nat) (es:List IE) (W:Wk) (a f e q:Fl) (lab:List Int) (fl:List Bool) (r bt:List T5) (tl:List (Nat×Fo)) (l o:List T5):Prop where
 parts:Aq N es lab fl r bt
 tab:Am N es lab bt tl l
 lis:Nc (Ay lab) bt=l
 lows:Jd N es fl l o
 ons:Ons 9000 ro W [a,f,e,q]
 ia:Ce W (a,l)
 ib:Ce W (f,Ba (edT es) fl)
 ic:Ce W (e,edT es)
 iq:Ce W (q,o)
 wa:a.width=5
 wb:f.width=3
 wc:e.width=3
 wq:q.width=3
 fault:W.δ.fault= -1
 acts:W.δ.acts≤300000
theorem EU {N:Nat} {lab:List Int} (h:∀x∈lab,0≤x∧x<(N:Int)) (hl:lab.length≤1000000) (hN:N≤1000000):∀t∈Ay lab,okT 2 t:=by intro t ht;unfold Ay at ht;obtain⟨v,hv,rfl⟩:=AN.1 ht;have hv:=List.mem_range.1 hv;have hx:=h (lab.getD v 0) (by rw[List.getD_eq_getElem?_getD,AG hv];exact List.getElem_mem hv);exact Hk ⟨oM,oM⟩ ⟨oM,oM⟩
theorem EV {N:Nat} {es:List IE} {lab:List Int} {fl:List Bool} {b:List T5} {tl:List (Nat×Fo)} {l o:List T5} (hT:Am N es lab b tl l) (h:Jd N es fl l o) (hN:N≤1000000):∀t∈o,okT 3 t:=by
 intro t ht;obtain⟨k,hk⟩:=List.mem_iff_getElem?.1 ht;have aa:k<N:=by rw[←h.len];exact(AK.1 hk).1
 obtain⟨v,hv,hn⟩:=hT.surj aa;obtain⟨lo,hi,h1,h2,h3⟩:=h.at_ v hv;rw[hn,Int.toNat_natCast,hk] at h1;rw[BC h1];have hb:∀{x:Int},Out N es fl l v x→0≤x∧x<N:=fun {x} ⟨u,hu,_,hx⟩=>by
  rcases hx with rfl|⟨w,hw,_,rfl⟩
  ·have:=hT.bnd hu;omega
  ·have:=hT.bnd hw;omega
 have g1:=hb h2.1;have g2:=hb h3.1;exact Iv ⟨oM,oM⟩ ⟨oM,oM⟩ ⟨oM,oM⟩
theorem cR (bw bd ba bs ro:Nat) (bg:80≤ro) (cd ca cs:Aa) (hW:Wc bd ba bs (wk0 10 9000 ro) cd ca cs) (N:Nat) (hN:N≤100) (p:Option Addr) (m cap:Nat) (es:List IE) (c:Aa) (hv:Rw ecl 2 p m es c) (hm:m≤100) (hf:∀e∈es,inE N e):Ct AC 40 [pv bw,gv N p m cap] [Ab bw bd ba bs,cd,ca,cs,c] fun v H'=>∃cd' ca' cs' W' fa fb fc fq lab fl r bt tl l o,v= .tuple #[.agg (fl4 fa++fl4 fb++fl4 fc++fl4 fq).toArray,.bool true]∧H'=[Ab bw bd ba bs,cd',ca',cs',c]∧Wc bd ba bs W' cd' ca' cs'∧cQ ro N es W' fa fb fc fq lab fl r bt tl l o:=by
 have ab:=eQ0;have ad:=hv.1;have ae:=Of19ct N oM p m cap es c hv oM hf;have al:=Ons.fresh 9000 ro;have bh:big (wk0 10 9000 ro).σ.free=9000:=big0 10 9000 ro;unfold gv at ae⊢;refine cG func40 fun _=>?_;repeat(refine sA ?_;intros)
 refine cL ae ?_;rintro _ _ ⟨pe,ke,ce,pl,kl,cl,pf,nf,kf,cf,pt,nt,kt,ct,pz,kz,cz,lab,fl,r,b,tl,l,rfl,rfl,aa⟩;try dsimp only[AA,AB]
 have hP:=aa.parts;have hT:=aa.tab;have bi:=hP.for_le hf;have bk:(Ba (edT es) fl).length=nf:=aa.f.1;have ag:=EP N oM es oM hf pe ke ce pl N kl pf nf kf cf pt nt kt pz kz cz aa.e aa.f aa.o hP hT;rw[ad] at ag;have am:=Xr (bw:=bw) (cap:=kz) oM hW al rfl (AU _) 5 oM oM aa.o oM (hT.okT oM) oM;repeat(refine sA ?_;intros)
 refine cL am ?_;rintro _ _ ⟨bp,bq,bu,W1,f1,rfl,rfl,an,ao,aq,w1,c1,au,a1,b1,k1⟩;try dsimp only[AA,AB]
 rw[show(wk0 10 9000 ro).δ.acts=0 from rfl] at a1;have av:=Xr (bw:=bw) (cap:=kf) oM an ao au oM 3 oM oM aa.f oM (xI hf oM oM fl) oM;rw[ab];repeat(refine sA ?_;intros)
 refine cL av ?_;rintro _ _ ⟨bv,bz,b5,W2,f2,rfl,rfl,aw,ax,ay,w2,c2,az,a2,b2,k2⟩;try dsimp only[AA,AB]
 have ah:=Xr (bw:=bw) (cap:=ke) oM aw ax az oM 3 oM oM aa.e oM (kT hf oM oM) oM;rw[ad] at ah;rw[ab];repeat(refine sA ?_;intros)
 refine cL ah ?_;rintro _ _ ⟨b6,b7,b8,W3,f3,rfl,rfl,a0,a5,a6,w3,c3,a7,a3,b3,k3⟩;try dsimp only[AA,AB]
 rw[ab];repeat(refine sA ?_;intros)
 refine cL ag ?_;rintro _ _ ⟨bx,o,rfl,rfl,ac⟩;try dsimp only[AA,AB]
 have a8:=Xr (bw:=bw) (cap:=N) oM a0 a5 a7 oM 3 oM oM (RV.row (bo:=bx) ac.len) oM (EV hT ac oM) oM;repeat(refine sA ?_;intros)
 refine cL a8 ?_;rintro _ _ ⟨ai,aj,ak,W4,f4,rfl,rfl,a9,bc,be,w4,c4,bf,a4,b4,k4⟩;try dsimp only[AA,AB]
 rw[ab];repeat(refine sA ?_;intros)
 (refine dP [Ab bw bd ba bs,ai,aj,ak,c] ?_;exact⟨ai,aj,ak,W4,f1,f2,f3,f4,lab,fl,r,b,tl,l,o,by rw[Dt rfl];rfl,rfl,a9,⟨hP,hT,aa.lis,ac,bc,k4 _ (k3 _ (k2 _ aq)),k4 _ (k3 _ ay),k4 _ a6,be,w1,w2,w3,w4,bf,oM⟩⟩)
theorem cS (bw bd ba bs ro:Nat) (a5:80≤ro) (N:Nat) (hN:N≤40) (es:List IE) (a0:es.length≤45) (hf:∀e∈es,inE N e) (W:Wk) (cd ca cs:Aa) (hW:Wc bd ba bs W cd ca cs) (a f e q:Fl) (hO:Ons 9000 ro W [a,f,e,q]) {lab:List Int} {fl:List Bool} {r bt:List T5} {tl:List (Nat×Fo)} {l o:List T5} (hP:Aq N es lab fl r bt) (hT:Am N es lab bt tl l) (hL:Jd N es fl l o) (ha:Ce W (a,l)) (hb:Ce W (f,Ba (edT es) fl)) (hc:Ce W (e,edT es)) (hq:Ce W (q,o)) (ac:a.width=5) (ag:f.width=3) (ae:e.width=3) (ad:q.width=3) (a4:W.δ.acts≤300000) (ao:(Ks l (Ba (edT es) fl) (edT es) o).length≤69):Ct AC 38 [pv bw,flv a,flv f,flv e,flv q] [Ab bw bd ba bs,cd,ca,cs] fun v H'=>∃x,∃er:Int,∃cd' ca' cs' W',v= .tuple #[flv x,Z9 Z8 er]∧H'=[Ab bw bd ba bs,cd',ca',cs']∧Wc bd ba bs W' cd' ca' cs'∧W'.α.used=0∧W'.σ.n=9000∧W'.δ.acts≤200000000∧(W.δ.fault= -1→W'.δ.fault= -1)∧((er=0∧∃lab2,En (gE (peB es fl l o)) (fun i=>i<(peB es fl l o).length) N (-1) lab2∧Ce W' (x,Fj l (edT es) (Ay lab2))∧x.width=2∧x.count=(Fj l (edT es) (Ay lab2)).length∧Ons 9000 ro W' [a,f,e,q,x])∨(x=⟨0,0,0,0⟩∧W'.live.Perm (Au [a,f,e,q] [])∧er=6∧W.δ.fault≠-1)):=by
 obtain⟨ls,hA⟩:=ap_ex N es;have X:BcX N es ls lab fl r bt tl l:=⟨hA,hf,hP,hT,oM⟩
 obtain⟨lab2,h2⟩:=cN (gE (peB es fl l o)) (fun i=>i<(peB es fl l o).length) N (-1);obtain⟨aq,au⟩:=hO.tot;simp only[List.map_cons,List.map_nil,List.sum_cons,List.sum_nil,AJ,AO] at aq au;obtain⟨La,ah,a6⟩:=id ha;obtain⟨Lb,ai,a7⟩:=id hb;obtain⟨Lc,aj,a8⟩:=id hc;obtain⟨Lq,ak,a9⟩:=id hq;have a1:=ah.len;have b1:=ai.len;have c1:=aj.len;have q1:=ak.len;have a2:=ah.blk;have b2:=ai.blk;have c2:=aj.blk;have q2:=ak.blk;dsimp only at a1 b1 c1 q1 a2 b2 c2 q2;rw[hO.size] at a2 b2 c2 q2;rw[ac] at a2;rw[ag] at b2;rw[ae] at c2;rw[ad] at q2;have az:=hP.for_le hf;have bc:=hT.len;have be:=hL.len;rw[Jy] at c1;have a3:a.blocks≤a.count:=by rw[a2];exact Dl (Bh oM oM oM)
 have b3:f.blocks≤f.count:=by rw[b2];exact Dl (Bh oM oM oM)
 have c3:e.blocks≤e.count:=by rw[c2];exact Dl (Bh oM oM oM)
 have q3:q.blocks≤q.count:=by rw[q2];exact Dl (Bh oM oM oM)
 have av:Cf 45≤183:=by decide+kernel
 have al:Cf 69≤372:=by decide+kernel
 have e1:183*(W.live.length+12)≤183*16:=CF _ oM;have e2:372*(W.live.length+14)≤372*18:=CF _ oM;have bf:=hO.n;have hB:=mN bw bd ba bs W cd ca cs hW a f e q l (Ba (edT es) fl) (edT es) o ha hb hc hq ac ag ae ad hT.rise (cJ hT) (kR es fl) ((Pd es).imp fun h=>Int.le_of_lt h) (mT hT hL) 45 69 183 372 oM oM oM oM oM oM av oM ao oM oM al (by rw[show a.count=N by omega];exact prs_ok X hL) (Ay lab2) (fun x y h=>CT es fl l o h2 (by rw[show a.count=N by omega] at h;exact h)) (by rw[kA,h2.len];omega) (mO lab2) (EU (N:=N) (fun x hx=>by
   obtain⟨v,hv,bg,_⟩:=h2.mem hx;omega) (by rw[h2.len];omega) oM) oM oM oM
 refine hB.mono ?_;rintro v H' (⟨_,x,er,aw,ax,ay,W3,rfl,rfl,ab,aa,am⟩|⟨bh,_⟩);rotate_left
 ·exfalso;have h3:=hO.room;have h4:=hO.used;have h5:=hO.size;omega
 have an:=aa.acts;unfold Po at an;refine⟨x,er,aw,ax,ay,W3,rfl,rfl,ab,(Lw hW ab aa.gs).trans hO.used,aa.n.trans hO.n,oM,aa.fault,?_⟩;rcases aa.res with⟨rfl,_,hl,bi⟩|⟨he,rfl,hl,⟨rfl,hr⟩|⟨k,h6,_⟩⟩
 ·obtain⟨o1,o2,o3,_⟩:=hO.stepped hW ab aa (am rfl) (by unfold Po;omega);exact .inl ⟨rfl,lab2,h2,o2,am rfl,o3,o1⟩
 ·exact .inr ⟨rfl,hl.trans hO.live,rfl,hr⟩
 ·cases h6
def FewP (N:Nat) (es:List IE):Prop:=∀lab fl r bt tl l o,Aq N es lab fl r bt→Am N es lab bt tl l→Jd N es fl l o→(Ks l (Ba (edT es) fl) (edT es) o).length≤69
theorem fewP {N:Nat} {es:List IE} (h:es.length+N≤69):FewP N es:=fun lab fl r bt tl l o _ hT _=>by have:=cO hT es fl o;omega
structure Told20 (N:Nat) (es:List IE) (W:Wk) (fs:List Fl) (lab:List Int) (fl:List Bool) (r bt:List T5) (tl:List (Nat×Fo)) (l o:List T5) (lab2:List Int):Prop where
 parts:Aq N es lab fl r bt
 tab:Am N es lab bt tl l
 lis:Nc (Ay lab) bt=l
 lows:Jd N es fl l o
 lb:En (gE (peB es fl l o)) (fun i=>i<(peB es fl l o).length) N (-1) lab2
 used:W.α.used=0
 n:W.σ.n=9000
 live:W.live.Perm (Au fs [])
theorem EW (bw bd ba bs ro:Nat) (aj:80≤ro) (cd ca cs:Aa) (hW:Wc bd ba bs (wk0 10 9000 ro) cd ca cs) (N:Nat) (hN:N≤40) (p:Option Addr) (m cap:Nat) (es:List IE) (c:Aa) (hv:Rw ecl 2 p m es c) (hm:m≤45) (hf:∀e∈es,inE N e) (ai:FewP N es):Ct AC 27 [pv bw,gv N p m cap] [Ab bw bd ba bs,cd,ca,cs,c] fun v H'=>∃cd' ca' cs' W' po nl oc co bq qf fs lab fl r bt tl l o lab2,v= .tuple #[.slice po nl oc,.slice (some ⟨bq,0,none⟩) 5 5,Z9 Z8 0]∧H'=[Ab bw bd ba bs,cd',ca',cs',c,co,qf]∧Wc bd ba bs W' cd' ca' cs'∧Told20 N es W' fs lab fl r bt tl l o lab2∧Rw fl4 4 (some ⟨bq,0,none⟩) 5 fs qf∧nl=(Fj l (edT es) (Ay lab2)).length∧Vec 33 5 po nl oc (flat (Fj l (edT es) (Ay lab2))) co:=by
 have aa:=eQ0;have a9:=hv.1;have ae:=cR bw bd ba bs ro aj cd ca cs hW N oM p m cap es c hv oM hf;unfold gv at ae⊢;simp only[fl4,AA,AB,AT] at ae;refine cG func27 fun _=>?_;repeat(refine sA ?_;intros)
 refine cL ae ?_;rintro _ _ ⟨aw,ax,ay,W1,fa,fb,fc,fq,lab,fl,r,bt,tl,l,o,rfl,rfl,az,hL⟩;try dsimp only[AA,AB]
 have ak:=cS bw bd ba bs ro aj N hN es oM hf W1 aw ax ay az fa fb fc fq hL.ons hL.parts hL.tab hL.lows hL.ia hL.ib hL.ic hL.iq hL.wa hL.wb hL.wc hL.wq hL.acts (ai _ _ _ _ _ _ _ hL.parts hL.tab hL.lows);rw[aa,aa,aa,aa] at ak;repeat(refine sA ?_;intros)
 refine cL ak ?_;rintro _ _ ⟨x,er,a0,a1,ag,W2,rfl,rfl,al,a2,am,bc,a3,hc⟩;dsimp only[AA,AB];rcases hc with⟨rfl,lab2,h2,ac,be,a4,ab⟩|⟨_,_,_,hr⟩
 rotate_left
 ·exact absurd hL.fault hr
 have bf:x.count≤1000:=by
  obtain⟨LvX,ad,_⟩:=ac;have h4:(Fj l (edT es) (Ay lab2)).length≤es.length:=by unfold Fj;rw[Uf,Ib,Xn];have:=Xm (edT es);rw[Jy] at this;exact this
  omega
 generalize an:Fj l (edT es) (Ay lab2)=bo at*;obtain⟨LvX,ad,ah⟩:=ac;have ao:=fL bw bd ba bs W2 a0 a1 ag al x _ LvX ad ah (by rw[ab.size,ab.room,ab.used];omega) (a3 hL.fault) oM oM;rw[aa x] at ao;rw[aa x];repeat(refine sA ?_;intros)
 refine cL ao ?_;rintro _ _ ⟨aq,au,W5,po,oc,cho,rfl,rfl,av,a5,bg,a6,a7,a8⟩;repeat(refine sA ?_;intros)
 rename_i bq;simp only[Bq,Int.reduceToNat,Nat.reduceMul,AD,List.drop_succ_cons,CX,List.take_succ_cons,List.take_zero,List.set_cons_succ,List.set_cons_zero];(refine dP [Ab bw bd ba bs,aq,au,ag,c,cho,[(bq,row [Z9 Z8 fa.first,Z9 Z8 fa.blocks,Z9 Z8 fa.width,Z9 Z8 fa.count,Z9 Z8 fb.first,Z9 Z8 fb.blocks,Z9 Z8 fb.width,Z9 Z8 fb.count,Z9 Z8 fc.first,Z9 Z8 fc.blocks,Z9 Z8 fc.width,Z9 Z8 fc.count,Z9 Z8 fq.first,Z9 Z8 fq.blocks,Z9 Z8 fq.width,Z9 Z8 fq.count,Z9 Z8 x.first,Z9 Z8 x.blocks,Z9 Z8 x.width,Z9 Z8 x.count] 42)]] ?_;skip);refine⟨aq,au,ag,W5,po,x.count,oc,cho,bq,_,[fa,fb,fc,fq,x],lab,fl,r,bt,tl,l,o,lab2,rfl,rfl,av,⟨hL.parts,hL.tab,hL.lis,hL.lows,h2,(Lw al av a7).trans a2,a5.n.trans am,by rw[a6];exact ab.live⟩,?_,?_,?_⟩
 ·exact⟨rfl,.inr ⟨bq,0,_,_,_,rfl,rfl,by simp[fl4]⟩⟩
 ·rw[an];exact a4
 ·rw[an];with_reducible exact a8
theorem EX (n:Int) (p:Option Addr) (m cap:Nat) (es:List IE) (c:Aa) (hv:Rw ecl 2 p m es c) (hm:m≤maxLen) (bb:Bool) (ad:bb=(He n es&&decide (n≤24∧(m:Int)≤45))):CtQ AC 26 [gv n p m cap] [c] (.bool bb):=by
 subst ad;have ab:=jK n p m cap es c hv hm;have ac:=jL n p m cap 24 45 hm;unfold gv at ab ac⊢;cases hfm:He n es with
 |false=>
  rw[hfm] at ab;rw[Bool.false_and];refine cG func26 fun _=>?_;repeat(refine sA ?_;intros)
  (refine dP [c] ?_;exact⟨rfl,rfl⟩)
 |true=>
 rw[hfm] at ab;rw[Bool.true_and];by_cases aa:n≤24∧(m:Int)≤45;rotate_left
 ·rw[Jq aa] at ac;rw[decide_eq_false aa];refine cG func26 fun _=>?_;repeat(refine sA ?_;intros)
  (refine dP [c] ?_;exact⟨rfl,rfl⟩)
 rw[Dt aa] at ac;rw[decide_eq_true aa];refine cG func26 fun _=>?_;repeat(refine sA ?_;intros)
 (refine dP [c] ?_;exact⟨rfl,rfl⟩)
theorem cT:CtQ AC 25 [] [] (.bool true):=by
 have ab:Ct AC 28 [Z9 Z8 9] [] fun v H'=>
  ∃bw bd ba bs cd ca cs,v=pv bw∧H'=[Ab bw bd ba bs,cd,ca,cs]∧Wc bd ba bs (wk0 10 9000 90) cd ca cs:=Xt 9 oM
 have ac:∀e∈([(0,1)]:List IE),inE ((2:Nat):Int) e:=by decide
 refine cG func25 fun _=>?_;repeat(refine sA ?_;intros)
 refine cL ab ?_;rintro _ _ ⟨bw,bd,ba,bs,cd,ca,cs,rfl,rfl,hW⟩;repeat(refine sA ?_;intros)
 rename_i be;have hB:=EW bw bd ba bs 90 oM cd ca cs hW 2 oM (some ⟨be,0,none⟩) 1 1 [(0,1)] [(be,row [Z9 Z8 0,Z9 Z8 1] 53)] ⟨rfl,.inr ⟨be,0,_,_,_,rfl,rfl,rfl⟩⟩ oM ac (fewP oA19);unfold gv at hB;refine cL hB ?_;rintro _ _ ⟨ag,ah,ai,W1,po,nl,oc,co,bz,qf,fs,lab,fl,r,bt,tl,l,o,lab2,rfl,rfl,aj,hT,ak,aa,ad⟩;try dsimp only[AA,AB]
 have ae:nl=1:=by rw[aa];unfold Fj;rw[Uf,Ib,Xn];rfl
 clear aa ad;subst ae;repeat(refine sA ?_;intros)
 (refine dP [] ?_;exact⟨congrArg Value.bool (Dt rfl),rfl⟩)
def bcBF (t:T5):List T5:=[⟨t.c1,0,0,0,0⟩]
theorem bcB:Bw (Cq [] (bcBF)) 1 (fun _ t=>okT 2 t) 86 [] []:=mkU fun _ _ _ _ _ _ t s=>mL1 s func86 (show bcBF t=[⟨t.c1,0,0,0,0⟩] from rfl)
def brN (k:Int×Int) (t:T5):Int×Int:=if t.c0=k.1 then(k.1,AL .i64 (k.2+1)) else(t.c0,1)
def brO (k:Int×Int) (t:T5):List T5:=if t.c0=k.1 then[] else if k.2=1 then[⟨k.1,0,0,0,0⟩] else[]
def brC (ba bb:Nat) (k:Int×Int):Hp:=[[(ba,row [Z9 Z8 k.1] 2)],[(bb,row [Z9 Z8 k.2] 3)]]
def brM (ba bb:Nat):Aj (Int×Int):=⟨brC ba bb,brO,brN,fun _ _=>none⟩
def brF (k:Int×Int):List T5:=if k.2=1 then[⟨k.1,0,0,0,0⟩] else[]
theorem nC (k:Int×Int) (t:T5):(brO k t).length≤1:=by unfold brO;split<;>(try split)<;>simp
theorem br_mk (ba bb:Nat):Bw (brM ba bb) 1 (fun k t=>okT 1 t∧Av k.1) 87 [] [pv ba,pv bb]:=by
 rintro bx Pst Br bnd hP ps X ⟨k1,k2⟩ t hX ⟨hk,aa⟩ hb;have ac:tv t= .agg #[Z9 Z8 t.c0,Z9 Z8 t.c1,Z9 Z8 t.c2,Z9 Z8 t.c3,Z9 Z8 t.c4]:=rfl;rw[ac];unfold Im;simp only[AB,AA];show Ct _ _ _ [X,[(ba,row [Z9 Z8 k1] 2)],[(bb,row [Z9 Z8 k2] 3)]] _;dsimp only at aa;by_cases h1:t.c0=k1
 ·have ho:(brM ba bb).outs (k1,k2) t=[]:=by show brO (k1,k2) t=_;unfold brO;rw[if_pos h1]
  have hn:(brM ba bb).next (k1,k2) t=(k1,AL .i64 (k2+1)):=by show brN (k1,k2) t=_;unfold brN;rw[if_pos h1]
  refine cG func87 fun _=>?_;repeat(refine sA ?_;intros)
  (refine dP [X,[(ba,row [Z9 Z8 k1] 2)],[(bb,row [Z9 Z8 (AL .i64 (k2+1))] 3)]] ?_;exact⟨X,(k1,AL .i64 (k2+1)),rfl,.inl ⟨rfl,rfl,hn.symm,by rw[ho,AQ];exact hX⟩⟩)
 ·have hn:(brM ba bb).next (k1,k2) t=(t.c0,1):=by show brN (k1,k2) t=_;unfold brN;rw[if_neg h1]
  by_cases h2:k2=1
  ·have ho:(brM ba bb).outs (k1,k2) t=[⟨k1,0,0,0,0⟩]:=by show brO (k1,k2) t=_;unfold brO;rw[if_neg h1,if_pos h2]
   have ad:ps.length+1≤bnd:=by rw[ho] at hb;exact hb
   have ab:=hP ps X ⟨k1,0,0,0,0⟩ hX (Ov aa) ad;rw[show tv ⟨k1,0,0,0,0⟩= .agg #[Z9 Z8 k1,Z9 Z8 0,Z9 Z8 0,Z9 Z8 0,Z9 Z8 0] from rfl] at ab;subst h2;refine cG func87 fun _=>?_;repeat(refine sA ?_;intros)
   refine R.callV (hct:=by exact ab) (h:=?_);rintro _ _ ⟨X',rfl,⟨rfl,ae⟩|⟨rfl,hB⟩⟩
   ·repeat(refine sA ?_;intros)
    (refine dP [X',[(ba,row [Z9 Z8 t.c0] 2)],[(bb,row [Z9 Z8 1] 3)]] ?_;exact⟨X',(t.c0,1),rfl,.inl ⟨rfl,rfl,hn.symm,by rw[ho];exact ae⟩⟩)
   ·repeat(refine sA ?_;intros)
    (refine dP [X',[(ba,row [Z9 Z8 t.c0] 2)],[(bb,row [Z9 Z8 1] 3)]] ?_;exact⟨X',(t.c0,1),rfl,.inr (.inl ⟨rfl,hB⟩)⟩)
  ·have ho:(brM ba bb).outs (k1,k2) t=[]:=by show brO (k1,k2) t=_;unfold brO;rw[if_neg h1,if_neg h2]
   refine cG func87 fun _=>?_;repeat(refine sA ?_;intros)
   (refine dP [X,[(ba,row [Z9 Z8 t.c0] 2)],[(bb,row [Z9 Z8 1] 3)]] ?_;exact⟨X,(t.c0,1),rfl,.inl ⟨rfl,rfl,hn.symm,by rw[ho,AQ];exact hX⟩⟩)
def brH (bj b6 b11 b10 b9:Nat) (f:Fl) (k:Int×Int):Hp:=[[(b6,row [pv bj] 84)],[(b11,row (fl4 f) 42)],[(b10,row [Z9 Z8 k.2] 3)],[(b9,row [Z9 Z8 k.1] 2)]]
theorem EY (p:Jp) (hp:p.Ok) (J:Jb) (he:J.e=0) (f:Fl) (ls:List T5) (hs:(f,ls)∈J.G∨In0 p (f,ls)) (d5:f.count≤100000) (b6 ah ai b9:Nat) (k:Int×Int) (hk:Av k.1) (dm:∀t∈ls,okT 1 t) (A T:Nat) (hT:Ac p.size 1 (f.count+1)≤T) (bg:Ou p J T) (hA:f.blocks+f.count+2≤A) (c7:J.acts+A≤1000000000):Er p J 88 [pv b6,pv ah,pv ai,pv b9] (brH p.bj b6 ah ai b9 f k) A T none (ls++brF k) fun g e Hx'=>Hx'=brH p.bj b6 ah ai b9 f k∧FB (f.count+1) (Ac p.size 1 (f.count+1)) 1 (ls++brF k).length e g:=by
 intro W cd ca cs held ph ag hW am;obtain⟨Lv,bh,c8⟩:=am.file (hs.imp (fun h=>(am.ok he).1.mem_iff.2 h) id);obtain⟨⟨c9,bi⟩,_⟩:=hW.dev.num;have d6:=am.used hp hW;have da:=am.big hW he bg;have d3:=am.acts;have bk:=bh.len;dsimp only at bh bk;have d7:(ls++brF k).length≤f.count+1:=by
  rw[AH];have:(brF k).length≤1:=by unfold brF;split<;>simp
  omega
 have dp:=Om p.bw p.bd p.ba p.bs W cd ca cs hW 1 (f.count+1) oM oM oM oM;have d8:Ac W.δ.size 1 (f.count+1)≤T:=by rw[am.size];exact hT
 have hz:=eQ1;have db:∀{W1:Wk} {a3 a4 a5:Aa} {g:Gr},Wc p.bd p.ba p.bs W1 a3 a4 a5→W1.α.gs.Perm (g::W.α.gs)→g.n=W.δ.size→W1.α.used=W.α.used+W.δ.size:=by intro W1 a3 a4 a5 g h1 h2 h3;rw[h1.ar.num.2.2.2,(h2.map (·.n)).sum_nat,hW.ar.num.2.2.2];simp[h3];omega
 have aa:∀(W':Wk) (a6 a7 cs':Aa) (g:Fl) (e:Int),Wc p.bd p.ba p.bs W' a6 a7 cs'→W'.α.gs.Perm W.α.gs→Ev W W' (f.blocks+f.count+2) (Ac W.δ.size 1 (f.count+1))→Ap W.live W W'→
   ((e=0∧W'.live.Perm (Az g W.live)∧g.width=1∧g.count=(ls++brF k).length∧Be W'.δ.disk W.δ.size [g.ext] g (ls++brF k))∨(e=6∧g=⟨0,0,0,0⟩∧W.δ.fault≠-1∧W'.live.Perm W.live))→
   Wg p W A T none (ls++brF k) (fun g e Hx'=>Hx'=brH p.bj b6 ah ai b9 f k∧FB (f.count+1) (Ac p.size 1 (f.count+1)) 1 (ls++brF k).length e g)
    (Bp p.bj p.bw 0 ph held.length ag) (.tuple #[flv g,Z9 Z8 e]) (Bp p.bj p.bw 0 ph held.length ag::Ab p.bw p.bd p.ba p.bs::a6::a7::cs'::brH p.bj b6 ah ai b9 f k):=by
  intro W' a6 a7 cs' g e h0 h1 h2 h3 h4;refine⟨g,e,a6,a7,cs',W',_,rfl,rfl,h0,⟨h1,h2.room,h2.size,h2.n,by have:=h2.acts.2;omega,by have:=h2.big;omega,h2.fault,h3,?_⟩,rfl,?_⟩
  ·rcases h4 with⟨a,b,_,_,c⟩|⟨a,b,c,d⟩
   ·exact .inl ⟨a,rfl,b,c⟩
   ·exact .inr ⟨oM,b,d,.inl ⟨a,c⟩⟩
  ·rcases h4 with⟨a,b,c1,c2,c⟩|⟨a,rfl,c,d⟩
   ·refine⟨oM,?_,fun _=>⟨c1,c2⟩⟩;rw[c.blk,c1,am.size];exact Da oM
   ·exact⟨AU _,AU _,fun h=>by omega⟩
 have d9:AL .i64 ((f.count:Int)+1)=((f.count+1:Nat):Int):=by rw[Ah oM];omega
 obtain⟨k1,k2⟩:=k;dsimp only at hk;have dq:tv ⟨k1,0,0,0,0⟩= .agg #[Z9 Z8 k1,Z9 Z8 0,Z9 Z8 0,Z9 Z8 0,Z9 Z8 0]:=rfl;unfold Bp brH fl4 at aa⊢;dsimp only at aa⊢;refine Ct.introD func88 rfl ntmps88 (nle rfl) fun _=>?_;dsimp only[Cy,AD];repeat(refine sv ?_;intros)
 refine cX dp ?_;rintro _ _ (⟨d4,bx,first,g,a3,a4,a5,W1,cx,cb,rfl,rfl,dc,an,e1,e2,e3,e4,e5⟩|⟨dr,_⟩);rotate_left
 ·exact absurd da oM
 dsimp only[AA,AB];refine nx ?_;have ea:=db dc e2 e3;have bp:=uV p.bw p.bd p.ba p.bs [] W1 a3 a4 a5 dc bx first 1 (f.count+1) g W.α.gs W.live cx cb e2 (by rw[an.size];exact e5) (by rw[an.size];exact e4) f ls Lv (by rw[e1];exact bh) c8 dm oA16 oM oM (by rw[an.room,an.size];omega) (by rw[e1];omega) oM
 have a8:Ap W.live W W1:=fun x _=>by rw[e1]
 rw[an.size] at bp;have ax:=eQ0;rw[ax] at bp;repeat(refine sv ?_;intros)
 refine cX bp ?_;rintro _ _ ⟨bq,bu,bv,W2,bz,b1,e,rfl,rfl,b2,ds,a9,hc⟩;dsimp only[AA,AB];refine nx ?_;have ab:=an.trans ds;rcases hc with⟨rfl,dd,de,df⟩|⟨rfl,dt,du⟩
 ·have eb:=ab.acts.2;have bi:W2.δ.size=W.δ.size:=ab.size;have dg:1≤Ad W2.δ.size 1:=by rw[bi];exact Bh c9 oM oM
  have dh:=fun ps W3 ay az a0 bc be (bf:Wc p.bd p.ba p.bs W3 ay az a0) hw hg hl c7 hh=>aD p.bw p.bd p.ba p.bs W3 ay az a0 bf bx first (Ac W.δ.size 1 (f.count+1)) 1 (f.count+1) g ps bc be hw W.α.gs hg W.live hl c7 hh
  by_cases di:k2=1;rotate_left
  ·have a1:=dh _ W2 bq bu bv bz b1 b2 df dd de oM dg;have ho:ls++brF (k1,k2)=ls:=by unfold brF;rw[if_neg di,AQ]
   rw[ho] at aa;rw[ho];repeat(refine sv ?_;intros)
   refine cL a1 ?_;rintro _ _ ⟨b3,b4,b5,W4,b7,b8,h,e,rfl,rfl,cg,ci,cj,cm,cu,hr⟩;try dsimp only[AA,AB]
   rw[ax];have hD:=Mt p.bw p.bd p.ba p.bs W4 b3 b4 b5 cg bx first (Ac W.δ.size 1 (f.count+1)) 1 (f.count+1) g W.α.gs W4.live b7 b8 (.inr ⟨cm,.refl _,cu⟩)
   repeat(refine sv ?_;intros)
   refine Go.SL.Lv.call (hc:=hD) (h:=?_);rintro _ _ ⟨ac,ad,ae,W5,cv,cw,rfl,ao,aq,aj,au,ak⟩;try dsimp only[AA,AB]
   have hE:=((ab.trans ci).trans aq).weak (k':=f.blocks+f.count+2) (m':=Ac W.δ.size 1 (f.count+1)) oM oM;have hK:=(a8.trans a9).trans cj;have av:Ap W.live W W5:=fun x hx=>by rw[aj];exact hK x hx
   (refine lN [[(p.bj,row [pv p.bw,Z9 Z8 0,.slice ph held.length ag] 98)],Ab p.bw p.bd p.ba p.bs,ac,ad,ae,[(b6,row [pv p.bj] 84)],[(ah,row [Z9 Z8 f.first,Z9 Z8 f.blocks,Z9 Z8 f.width,Z9 Z8 f.count] 42)],[(ai,row [Z9 Z8 k2] 3)],[(b9,row [Z9 Z8 k1] 2)]] ?_;refine aa W5 ac ad ae h e ao au hE av ?_);rw[bi] at hr;rcases hr with⟨rfl,aw,cz,c5,a2⟩|⟨rfl,rfl,c6,aw⟩
   ·exact .inl ⟨rfl,ak.trans aw,cz,c5,by rw[aj];exact a2⟩
   ·exact .inr ⟨rfl,rfl,Ki ab c6,ak.trans aw⟩
  ·subst di;have ho:ls++brF (k1,1)=ls++[⟨k1,0,0,0,0⟩]:=by unfold brF;rw[if_pos rfl]
   have dj:=aC p.bw p.bd p.ba p.bs W2 bq bu bv b2 bx first _ 1 (f.count+1) g _ bz b1 df W.α.gs dd W.live de oA16 ⟨k1,0,0,0,0⟩ (Ov hk) oM dg
   rw[ho] at aa;rw[ho];rw[dq] at dj;repeat(refine sv ?_;intros)
   refine cX dj ?_;rintro _ _ ⟨ay,az,a0,W3,bc,be,e,rfl,rfl,bf,dw,dk,dx⟩;dsimp only[AA,AB];refine nx ?_;have al:=ab.trans dw;rcases dx with⟨rfl,dy,dz,d0⟩|⟨rfl,d1,d2⟩
   ·have ec:=al.acts.2;have dl:W3.δ.size=W.δ.size:=al.size;have a1:=dh _ W3 ay az a0 bc be bf d0 dy dz oM (by rw[dl];exact Bh c9 oM oM);repeat(refine sv ?_;intros)
    refine cL a1 ?_;rintro _ _ ⟨b3,b4,b5,W4,b7,b8,h,e,rfl,rfl,cg,ci,cj,cm,cu,hr⟩;try dsimp only[AA,AB]
    rw[ax];have hD:=Mt p.bw p.bd p.ba p.bs W4 b3 b4 b5 cg bx first (Ac W.δ.size 1 (f.count+1)) 1 (f.count+1) g W.α.gs W4.live b7 b8 (.inr ⟨cm,.refl _,cu⟩)
    repeat(refine sv ?_;intros)
    refine Go.SL.Lv.call (hc:=hD) (h:=?_);rintro _ _ ⟨ac,ad,ae,W5,cv,cw,rfl,ao,aq,aj,au,ak⟩;try dsimp only[AA,AB]
    have hE:=((al.trans ci).trans aq).weak (k':=f.blocks+f.count+2) (m':=Ac W.δ.size 1 (f.count+1)) oM oM;have hK:=((a8.trans a9).trans dk).trans cj;have av:Ap W.live W W5:=fun x hx=>by rw[aj];exact hK x hx
    (refine lN [[(p.bj,row [pv p.bw,Z9 Z8 0,.slice ph held.length ag] 98)],Ab p.bw p.bd p.ba p.bs,ac,ad,ae,[(b6,row [pv p.bj] 84)],[(ah,row [Z9 Z8 f.first,Z9 Z8 f.blocks,Z9 Z8 f.width,Z9 Z8 f.count] 42)],[(ai,row [Z9 Z8 1] 3)],[(b9,row [Z9 Z8 k1] 2)]] ?_;refine aa W5 ac ad ae h e ao au hE av ?_);rw[dl] at hr;rcases hr with⟨rfl,aw,cz,c5,a2⟩|⟨rfl,rfl,c6,aw⟩
    ·exact .inl ⟨rfl,ak.trans aw,cz,c5,by rw[aj];exact a2⟩
    ·exact .inr ⟨rfl,rfl,Ki al c6,ak.trans aw⟩
   ·have hD:=Mt p.bw p.bd p.ba p.bs W3 ay az a0 bf bx first (Ac W.δ.size 1 (f.count+1)) 1 (f.count+1) g W.α.gs W.live bc be d2
    repeat(refine sv ?_;intros)
    refine Go.SL.Lv.call (hc:=hD) (h:=?_);rintro _ _ ⟨ac,ad,ae,W5,cv,cw,rfl,ao,aq,aj,au,ak⟩;try dsimp only[AA,AB]
    have hE:=(al.trans aq).weak (k':=f.blocks+f.count+2) (m':=Ac W.δ.size 1 (f.count+1)) oM oM;have hK:=(a8.trans a9).trans dk;have av:Ap W.live W W5:=fun x hx=>by rw[aj];exact hK x hx
    (refine lN [[(p.bj,row [pv p.bw,Z9 Z8 0,.slice ph held.length ag] 98)],Ab p.bw p.bd p.ba p.bs,ac,ad,ae,[(b6,row [pv p.bj] 84)],[(ah,row [Z9 Z8 f.first,Z9 Z8 f.blocks,Z9 Z8 f.width,Z9 Z8 f.count] 42)],[(ai,row [Z9 Z8 1] 3)],[(b9,row [Z9 Z8 k1] 2)]] ?_;exact aa W5 ac ad ae ⟨0,0,0,0⟩ 6 ao au hE av (.inr ⟨rfl,rfl,Ki ab d1,ak⟩))
 ·have hD:=Mt p.bw p.bd p.ba p.bs W2 bq bu bv b2 bx first (Ac W.δ.size 1 (f.count+1)) 1 (f.count+1) g W.α.gs W.live bz b1 du
  repeat(refine sv ?_;intros)
  refine Go.SL.Lv.call (hc:=hD) (h:=?_);rintro _ _ ⟨ac,ad,ae,W5,cv,cw,rfl,ao,aq,aj,au,ak⟩;try dsimp only[AA,AB]
  have hE:=(ab.trans aq).weak (k':=f.blocks+f.count+2) (m':=Ac W.δ.size 1 (f.count+1)) oM oM;have hK:=a8.trans a9;have av:Ap W.live W W5:=fun x hx=>by rw[aj];exact hK x hx
  (refine lN [[(p.bj,row [pv p.bw,Z9 Z8 0,.slice ph held.length ag] 98)],Ab p.bw p.bd p.ba p.bs,ac,ad,ae,[(b6,row [pv p.bj] 84)],[(ah,row [Z9 Z8 f.first,Z9 Z8 f.blocks,Z9 Z8 f.width,Z9 Z8 f.count] 42)],[(ai,row [Z9 Z8 k2] 3)],[(b9,row [Z9 Z8 k1] 2)]] ?_;exact aa W5 ac ad ae ⟨0,0,0,0⟩ 6 ao au hE av (.inr ⟨rfl,rfl,Ki an dt,ak⟩))
theorem Xu (ba bb:Nat):∀(ts:List T5) (k:Int×Int),(brM ba bb).all k ts=(brM 0 0).all k ts∧(brM ba bb).st k ts=(brM 0 0).st k ts
 |[],_=>⟨rfl,rfl⟩
 |t::ts,k=>by obtain⟨h1,h2⟩:=Xu ba bb ts (brN k t);simp only[Aj.all,Aj.st];rw[show(brM ba bb).next k t=brN k t from rfl,show(brM 0 0).next k t=brN k t from rfl,h1,h2];exact⟨rfl,rfl⟩
def brL (ts:List T5):List T5:=(brM 0 0).all (-1,0) ts++brF ((brM 0 0).st (-1,0) ts)
def Lk (bl:List T5):List T5:=brL (srt (ltO o1) false (bl.map fun t=>⟨t.c1,0,0,0,0⟩))
theorem nD:∀(ts:List T5) (k:Int×Int),((brM 0 0).all k ts).length≤ts.length
 |[],_=>AI _
 |t::ts,k=>by simp only[Aj.all,AH,AJ];have h1:=nD ts ((brM 0 0).next k t);have h2:((brM 0 0).outs k t).length≤1:=nC k t;omega
theorem nE {k:Int×Int} {t:T5} (h1:Av k.1) (h2:okT 1 t):Av (brN k t).1:=by
 unfold brN;split
 ·exact h1
 ·exact(Dp h2).1
theorem br_ok {ts:List T5}:∀{k:Int×Int},Av k.1→(∀t∈ts,okT 1 t)→(∀z∈(brM 0 0).all k ts,okT 1 z)∧Av ((brM 0 0).st k ts).1:=by
 induction ts with
 |nil=>intro k h1 _;exact⟨fun z hz=>by simp[Aj.all] at hz,h1⟩
 |cons t ts ih=>
  intro k h1 h2;have ht:=h2 t AE;obtain⟨i1,i2⟩:=ih (k:=brN k t) (nE h1 ht) fun u hu=>h2 u (AF _ hu);refine⟨fun z hz=>?_,i2⟩;simp only[Aj.all,AS] at hz;rcases hz with hz|hz
  ·have hz:z∈brO k t:=hz;unfold brO at hz;split at hz
   ·cases hz
   ·split at hz
    ·rw[AW] at hz;subst hz;exact Ov h1
    ·cases hz
  ·exact i1 z hz
theorem br_oks (ba bb:Nat) {ts:List T5} (h:∀t∈ts,okT 1 t):(brM ba bb).oks (fun k t=>okT 1 t∧Av k.1) (-1,0) ts:=
 Aj.oks_of (M:=brM ba bb) (I:=fun k=>Av k.1) (Q:=okT 1) (fun k t hI hQ=>⟨⟨hQ,hI⟩,nE hI hQ⟩) ts (-1,0) Mg h
abbrev Pp:Nat:=120000
theorem nF (bw bd ba bs:Nat) (W:Wk) (cd ca cs:Aa) (h:Wc bd ba bs W cd ca cs) (bf:Fl) (bl:List T5) (ax:Ce W (bf,bl)) (aw:bf.width=2) (c m:Nat) (c6:bf.count+1≤c) (hc:c≤500) (cz:c≤m) (hT:Cf c≤m) (ao:m*(W.live.length+4)+(3*c+Bc W.live)≤W.σ.n) (c5:W.δ.acts≤350000000):Ct AC 39 [pv bw,flv bf] [Ab bw bd ba bs,cd,ca,cs] (iT bw bd ba bs W cd cs Pp Pp none (Lk bl) 1):=by
 have ab:=eQ0;have ad:=eQ2;have hz:=eQ1;have ay:tv o1= .agg #[Z9 Z8 1,Z9 Z8 0,Z9 Z8 0,Z9 Z8 0,Z9 Z8 0]:=rfl;have hB:=fun b=>aA bw bd ba bs W cd ca cs h [(bf,bl)] (by simp only[AM,List.not_mem_nil,or_false];rintro x rfl;exact ax) oA19 (some ⟨b,0,none⟩) 1 _ (Mr b bf);simp only[ad,AA,AB] at hB;have c7:(bf.width:Int)=2:=by rw[aw];rfl
 rw[ab bf];refine cG func39 fun _=>?_;repeat(refine sA ?_;intros)
 refine cL (hB _) ?_;rintro _ _ ⟨ai,α1,az,a0,a3,⟨ac,bj,rfl,rfl⟩|⟨aj,rfl,rfl⟩⟩;rotate_left
 ·dsimp only[AA,AB];repeat(refine sA ?_;intros)
  (refine dP [Ab bw bd ba bs,cd,ai,cs] ?_;exact .inr ⟨aj,rfl,ai,α1,rfl,az,a0,a3⟩)
 dsimp only[AA,AB];obtain⟨hp,hJ⟩:=aB (bj:=bj) h az a0 a3 ac;have a4:In0 (Bu bw bd ba bs bj W) (bf,bl):=Sc ax;have ae:(Bu bw bd ba bs bj W).bj=bj:=rfl;have c8:(Bu bw bd ba bs bj W).bw=bw:=rfl;have bu:(Bu bw bd ba bs bj W).L0=W.live:=rfl;have bv:(Bu bw bd ba bs bj W).n=W.σ.n:=rfl;obtain⟨t1,t2,t3,t4,t5⟩:=Kk a4;dsimp only at t1 t2 t3 t4 t5;have c9:bf.blocks≤bf.count:=by rw[t3];exact Dl (Bh hp.size.1 t4 t5)
 rw[aw] at t2;have hR:Rm (Bu bw bd ba bs bj W) c m 3 W.δ.acts:=⟨hp,oM,oM,by
  rw[bu,bv];have e:3+W.live.length+1=W.live.length+4:=oM;rw[e];exact ao,oM,oM⟩
 have bz:Ao (Bu bw bd ba bs bj W) c 3 W.δ.acts 0 0 none [] _:=⟨hJ.weak rfl rfl rfl (AI _) (AI _),AU _,by simp⟩
 have ag:=fun b1=>Fy hR bz [] bcBF 1 bf.count c 1 oM 86 inferInstance [] (okT 2) bcB (fun t _=>AI _) oM bf bl (.inr a4) oM (fun _=>t2)
  (fun h=>by rw[El (f:=bcBF) (g:=fun t=>⟨t.c1,0,0,0,0⟩) (fun _=>rfl),AR];omega) (.inl oM) (AI _) oA12 oM b1
 simp only[ad,ae] at ag;rw[El (f:=bcBF) (g:=fun t=>⟨t.c1,0,0,0,0⟩) (fun _=>rfl)] at ag;have ag:=fun b1=>Ct.convP (H:=[Bp bj bw 0 none 0 0,Ab bw bd ba bs,cd,ai,cs,[(b1,row [Z9 Z8 bf.first,Z9 Z8 bf.blocks,Z9 Z8 bf.width,Z9 Z8 bf.count] 42)]]) (ag b1) (by
  have h1:=(aE (p:=Bu bw bd ba bs bj W) (e:=0) (cd:=cd) (ca:=ai) (cs:=cs)).append_right [(b1,row [Z9 Z8 bf.first,Z9 Z8 bf.blocks,Z9 Z8 bf.width,Z9 Z8 bf.count] 42)];simp only[AX,A4,AQ,AT] at h1⊢;exact h1) (fun v H' hh=>⟨H',hh,.refl _⟩)
 repeat(refine sA ?_;intros)
 refine cX (ag _) ?_;rintro _ _ ⟨g1,C1,e1,rfl,rfl,b2,a5,da⟩;dsimp only[AA,AB];refine nx ?_;try rw[ab]
 have cj:=a5.cnt;have a6:=Fp hR b2 g1 _ _ o1 rfl false a5 .here oM (AI _) hT oM;rw[ab,ay,ae] at a6;repeat(refine sA ?_;intros)
 refine cX a6 ?_;rintro _ _ ⟨g2,C2,e2,rfl,rfl,b3,aq,db⟩;dsimp only[AA,AB];refine nx ?_;try rw[ab]
 have cm:=aq.cnt;have cu:=aq.blk;generalize a7:srt (ltO o1) false (bl.map fun t=>(⟨t.c1,0,0,0,0⟩:T5))=so at*;have an:∀t∈so,okT 1 t:=by intro t ht;rw[←a7] at ht;obtain⟨u,hu,rfl⟩:=AN.1 (Io ht);exact Ov (Dp (t2 u hu)).2.1
 have a8:=fun bt bn b1=>Wl hR b3 (brM bt bn) (fun _ _=>rfl) (-1,0) 1 g2.count c 1 oM 87 inferInstance [pv bt,pv bn] _ (br_mk bt bn) (fun k t _=>nC k t) oM g2 so (.inl AE) oM
  (fun h=>br_oks _ _ an) (fun h=>by rw[(Xu _ _ so _).1,(aq.ok h).2];exact nD _ _) (.inl oM) (AI _) oA12 oM b1
 simp only[ad,ae,(Xu _ _ so _).1,(Xu _ _ so _).2] at a8;repeat(refine sA ?_;intros)
 rename_i b9 ah a9;have bc:=a8 b9 ah a9;change Ct _ _ _ [C2,[(a9,row [Z9 Z8 g2.first,Z9 Z8 g2.blocks,Z9 Z8 g2.width,Z9 Z8 g2.count] 42)],[(b9,row [Z9 Z8 (-1)] 2)],[(ah,row [Z9 Z8 0] 3)]] _ at bc;refine cX bc ?_;rintro _ _ ⟨g3,C3,e3,⟨k1,k2⟩,rfl,rfl,au,be,bg⟩;dsimp only[brM,brC,AA,AB];rw[ab];refine nx ?_;have cv:=be.cnt;have cw:=be.blk;have bh:=br_ok (k:=(-1,0)) Mg an;have b4:e3=0→(brM 0 0).all (-1,0) so++brF (k1,k2)=Lk bl:=fun h=>by rw[(bg h).2];unfold Lk;rw[a7];rfl
 have bi:Ac (Bu bw bd ba bs bj W).size 1 (g3.count+1)≤c:=by have:=Dl (n:=g3.count+1) (Bh hp.size.1 (k:=1) oM oM);omega
 have bk:=fun b6 av=>SRun hR au 88 inferInstance [pv b6,pv av,pv ah,pv b9] (brH bj b6 av ah b9 g3 (k1,k2)) 5000 c 1 none ((brM 0 0).all (-1,0) so++brF (k1,k2)) oM oM (b:=g3.count+1) (c:=c) (w:=1) (n:=((brM 0 0).all (-1,0) so++brF (k1,k2)).length) (fun he x y hx=>by
  have b5:=(bg he).2;have b7:Av (k1,k2).1:=by rw[b5];exact bh.2
  subst he;have hS:=EY (Bu bw bd ba bs bj W) hp ⟨0,none,_,x,y⟩ rfl g3 ((brM 0 0).all (-1,0) so) (.inl AE) oM b6 av ah b9 (k1,k2) b7 bh.1 5000 c bi (hR.fits au.len au.blk oM _ _ _ _) oM oD;refine Er.mono hS ?_;rintro g e' dc ⟨a1,a2⟩;exact⟨a1,a2.cnt,Nat.le_trans a2.blk bi,a2.ok⟩) (AI _) oA12
 simp only[brH,Ms,ad,ae] at bk;repeat(refine sA ?_;intros)
 refine cX (bk _ _) ?_;rintro _ _ ⟨g4,C4,e4,rfl,rfl,b8,cg,ci⟩;dsimp only[AA,AB];rw[ab];refine nx ?_;have bp:=fun b1=>iW hR b8 g4 b1;simp only[ad,ae] at bp;repeat(refine sA ?_;intros)
 refine cL (bp _) ?_;rintro _ _ ⟨ak,al,am,W5,rfl,rfl,bq,hD⟩;try dsimp only[AA,AB]
 have aa:=iU (A:=Pp) (T:=Pp) hD rfl (by dsimp only;unfold Pp;omega) (by dsimp only;unfold Pp;omega);dsimp only at aa;by_cases he:e4=0
 ·subst he;rw[if_pos rfl,b4 (ci rfl)] at aa;repeat(refine sA ?_;intros)
  (refine dP [Ab bw bd ba bs,ak,al,am] ?_;exact .inl ⟨ac,g4,0,ak,al,am,W5,rfl,rfl,bq,aa,fun _=>(cg.ok rfl).1⟩)
 ·rw[if_neg he] at aa;repeat(refine sA ?_;intros)
  (refine dP [Ab bw bd ba bs,ak,al,am] ?_;exact .inl ⟨ac,⟨0,0,0,0⟩,e4,ak,al,am,W5,rfl,rfl,bq,⟨aa.gs,aa.room,aa.size,aa.n,aa.acts,aa.big,aa.fault,aa.keep,by
   rcases aa.res with⟨h1,_⟩|h1
   ·exact absurd h1 he
   ·exact .inr h1⟩,fun h=>absurd h he⟩)
theorem EZ (a b c d:Fl) (hw:¬(a.width=5∧b.width=3∧c.width=3∧d.width=3)) (x:Value):CtQ AC 38 [x,flv a,flv b,flv c,flv d] [] (.tuple #[flv ⟨0,0,0,0⟩,Z9 Z8 1]):=by
 have aa:=eQ0;rw[aa,aa,aa,aa];by_cases h2:a.width=5
 ·have ab:(a.width:Int)=5:=by rw[h2];rfl
  by_cases h3:b.width=3
  ·have ac:(b.width:Int)=3:=by rw[h3];rfl
   by_cases h4:c.width=3
   ·have ad:(c.width:Int)=3:=by rw[h4];rfl
    have h5:d.width≠3:=fun h=>hw ⟨h2,h3,h4,h⟩;refine cG func38 fun _=>?_;repeat(refine sA ?_;intros)
    (refine dP [] ?_;exact⟨rfl,rfl⟩)
   ·refine cG func38 fun _=>?_;repeat(refine sA ?_;intros)
    (refine dP [] ?_;exact⟨rfl,rfl⟩)
  ·refine cG func38 fun _=>?_;repeat(refine sA ?_;intros)
   (refine dP [] ?_;exact⟨rfl,rfl⟩)
 ·refine cG func38 fun _=>?_;repeat(refine sA ?_;intros)
  (refine dP [] ?_;exact⟨rfl,rfl⟩)
theorem E0 (a b c d:Fl) (ha:a.width=5) (hb:b.width=3) (hc:c.width=3) (hd:d.width=3):CtQ AC 38 [.pointer none,flv a,flv b,flv c,flv d] [] (.tuple #[flv ⟨0,0,0,0⟩,Z9 Z8 1]):=by
 have aa:=eQ0;have ab:(a.width:Int)=5:=by rw[ha];rfl
 have ac:(b.width:Int)=3:=by rw[hb];rfl
 have ad:(c.width:Int)=3:=by rw[hc];rfl
 have ae:(d.width:Int)=3:=by rw[hd];rfl
 rw[aa,aa,aa,aa];refine cG func38 fun _=>?_;repeat(refine sA ?_;intros)
 refine cL (uS _) ?_;rintro _ _ ⟨rfl,rfl⟩;repeat(refine sA ?_;intros)
 (refine dP [] ?_;exact⟨rfl,rfl⟩)
theorem nG (a:Fl) (hw:a.width≠2) (x:Value):CtQ AC 39 [x,flv a] [] (.tuple #[flv ⟨0,0,0,0⟩,Z9 Z8 1]):=by
 have aa:=eQ0;rw[aa];refine cG func39 fun _=>?_;repeat(refine sA ?_;intros)
 (refine dP [] ?_;exact⟨rfl,rfl⟩)
theorem nH (bw bd ba bs ro:Nat) (ao:80≤ro) (W:Wk) (cd ca cs:Aa) (hW:Wc bd ba bs W cd ca cs) (a f e q x:Fl) (hO:Ons 9000 ro W [a,f,e,q,x]) (bl:List T5) (hx:Ce W (x,bl)) (ag:x.width=2) (an:x.count≤100) (ae:W.δ.acts≤350000000) (am:Bc W.live≤2000):Ct AC 39 [pv bw,flv x] [Ab bw bd ba bs,cd,ca,cs] fun v H'=>∃y,∃er:Int,∃cd' ca' cs' W',v= .tuple #[flv y,Z9 Z8 er]∧H'=[Ab bw bd ba bs,cd',ca',cs']∧Wc bd ba bs W' cd' ca' cs'∧W'.α.used=0∧W'.σ.n=9000∧(W.δ.fault= -1→W'.δ.fault= -1)∧W'.δ.acts≤W.δ.acts+120000∧((er=0∧Ce W' (y,Lk bl)∧y.width=1∧y.count=(Lk bl).length∧Ons 9000 ro W' [a,f,e,q,x,y])∨(y=⟨0,0,0,0⟩∧W'.live.Perm (Au [a,f,e,q,x] [])∧er=6∧W.δ.fault≠-1)):=by
 obtain⟨ah,_⟩:=hO.tot;simp only[AJ,AO] at ah;have aq:=hO.n;have ai:Cf 101≤560:=by decide+kernel
 have e1:560*(W.live.length+4)≤560*9:=CF _ oM;have hB:=nF bw bd ba bs W cd ca cs hW x bl hx ag 101 560 oM oM oM ai oM ae;refine hB.mono ?_;rintro v H' (⟨_,y,er,aj,ak,al,W3,rfl,rfl,ab,aa,ac⟩|⟨au,_⟩);rotate_left
 ·exfalso;have h3:=hO.room;have h4:=hO.used;have h5:=hO.size;omega
 have ad:=aa.acts;unfold Pp at ad;refine⟨y,er,aj,ak,al,W3,rfl,rfl,ab,(Lw hW ab aa.gs).trans hO.used,aa.n.trans hO.n,aa.fault,oM,?_⟩;rcases aa.res with⟨rfl,_,hl,av⟩|⟨he,rfl,hl,⟨rfl,hr⟩|⟨k,h6,_⟩⟩
 ·obtain⟨o1,o2,o3,_⟩:=hO.stepped hW ab aa (ac rfl) (by unfold Pp;omega);exact .inl ⟨rfl,o2,ac rfl,o3,o1⟩
 ·exact .inr ⟨rfl,hl.trans hO.live,rfl,hr⟩
 ·cases h6
open Go.ChangeShapes Go.WideShapes Go.ChangeAt Go.RowKit
theorem own:ownKnob prog.godebug=none:=by kernel_rfl
theorem cU:laidOutB AC=true:=by kernel_rfl
theorem E1 {W W':World} {H:Hp} (h:St W [] W' H):Below W.heap.size W W':=
 ⟨h.os,h.tape,h.output,h.size,fun k hk=>h.frame k hk oA19⟩
theorem nI {H:Type} {enc:TypeId×Value→H} {P:Program} {W W':World} (hl:laidOutB P=true) (hb:Below W.heap.size W W') {sp:Nat→Bool}:∀(ts:List TypeId) (vs:List Value) (ds:List (DataW H)) (ps:List MemPlace),(∀t∈ts,P.readableRec t=true∧t<P.types.size)→DataW.TrodAll enc P W 0 (fun _=>true) true ts vs ds ps→(∀p∈ps,p.block<W.heap.size)→(∀p∈ps,sp p.block=true)→DataW.TrodAll enc P W' 0 sp true ts vs ds ps
 |[],vs,ds,ps,_,h,_,_=>by
  cases vs<;>cases ds<;>simp[DataW.TrodAll] at h⊢;exact h
 |t::ts,vs,ds,ps,hr,h,hlt,hsp=>by obtain⟨v,aa,d,ab,p,q,rfl,rfl,rfl,h0,r0⟩:=trodAll_cons h;have h1:=WideElems.Trod_stays hl (hr t AE).1 (hr t AE).2 h0 (fun x hx=>hb.same (hlt x (BN _ hx))) (fun x hx=>hsp x (BN _ hx));exact trodAll_cons_mk h1 (nI hl hb ts aa ab q (fun t ht=>hr t (AF _ ht)) r0 (fun x hx=>hlt x (BK _ hx)) (fun x hx=>hsp x (BK _ hx)))
theorem E3 {H:Type} {enc:TypeId×Value→H} {P:Program} {f:Func} {s:ChangeSpec} {apart fresh ad again:Bool} {W W':World} {args:Array Value} {v:Value} {ds gs:List (DataW H)} {aa pa pv:List MemPlace} (hW:DataW.Whole enc P f.params.toList s.vars apart W args.toList ds gs aa) (ag:∀(b:Nat) (sp:Nat→Bool) (hd:Bool),DataW.TrodAll enc P W' b sp hd f.resultTypes.toList (v.resultList f.resultTypes.size) (s.fn H (ds++gs)).results []) (ab:∀sp:Nat→Bool,(∀p∈aa,sp p.block=true)→DataW.TrodAll enc P W' 0 sp true f.params.toList args.toList (s.fn H (ds++gs)).args pa) (ac:∀sp:Nat→Bool,(∀p∈aa,sp p.block=true)→DataW.TrodVars enc P W' sp s.vars (s.fn H (ds++gs)).vars pv) (ae:aa=pa++pv) (hk:W.keptBut W' (·∈aa)) (ak:∀a:Addr,a.block<W.heap.size→W'.frozen? a=W.frozen? a) (al:∀(j:Nat) (t:TypeId) (r:Value),f.resultTypes[j]? =some t→(v.resultList f.resultTypes.size)[j]? =some r→Value.okWide P W' .any 0 t r):s.post enc P f apart fresh ad again W args v W':=by
 have ah:∀p∈aa,(fun b=>decide (b<W.heap.size)) p.block=true:=fun p hp=>by simpa using hW.lt p hp
 have ai:∀p∈aa,p.block<W.heap.size:=fun p hp=>hW.lt p hp;refine⟨ds,gs,aa,[],pa,pv,hW,ag _ _ _,ab _ ah,ac _ ah,World.keptBut_mono (fun p hp=>⟨hp,?_⟩) hk,fun _=>?_⟩
 ·rw[ae,AS] at hp;exact Or.inr hp
 ·obtain⟨_,_,_,_,_,hz,hn⟩:=hW;refine⟨al,_,_,([]++pa)++pv,⟨[]++pa,pv,trodAll_append (ab _ (fun _ _=>rfl)) (ag _ _ _),ac _ (fun _ _=>rfl),rfl,?_,?_⟩,?_⟩
  ·intro b off hp;have aj:MemPlace.cell b off∈aa:=by rw[ae];simpa using hp
   rw[ak _ (ai _ aj)];exact hz b off aj
  ·intro ha;have:=hn ha;rw[ae] at this;simpa using this
  ·intro p hp _;rw[ae];simpa using hp
theorem cW {H:Type} {enc:TypeId×Value→H} {P:Program} {f:Func} {s:ChangeSpec} {b:TypeId} {W W':World} {args:Array Value} {ds gs:List (DataW H)} {aa:List MemPlace} (hW:DataW.Whole enc P f.params.toList s.vars false W args.toList ds gs aa) (hv:s.vars=[]) (ad:f.resultTypes= #[b]) (hb:P.underlying b=some .bool) (hl:laidOutB P=true) (hr:∀t∈f.params.toList,P.readableRec t=true∧t<P.types.size) (ac:s.fn H (ds++gs)={results:=[.lit (.bool true)],args:=ds}) (ab:Below W.heap.size W W'):s.post enc P f false true false false W args (.bool true) W':=by
 have ae:=hW;have ag:∀p∈aa,p.block<W.heap.size:=fun p hp=>ae.lt p hp;obtain⟨p,q,hA,hV,rfl,ak,al⟩:=hW;rw[hv] at hV;have hq:q=[]:=by cases gs<;>simp[DataW.TrodVars] at hV;exact hV
 subst hq;have ah:gs=[]:=by cases gs<;>simp[DataW.TrodVars] at hV⊢
 subst ah;simp only[AQ] at ae ag ac;refine E3 (pa:=p) (pv:=[]) ae ?_ ?_ ?_ oA19 ?_ ?_ ?_
 ·intro aj sp hd;simp only[AQ,ac,ad];exact trodAll_mk1 (shut_bool hb true)
 ·intro sp ai;simp only[AQ,ac];exact nI hl ab _ _ _ _ hr hA ag ai
 ·intro sp _;simp only[AQ,ac,hv];rfl
 ·exact ab.frame _
 ·exact fun a ha=>ab.frozen ha
 ·exact ok_one ad rfl (okWide_bool_mk hb true)
theorem st_nil (W:World):St W (Bj []) W []:=
 ⟨by simp[Bj],by simp,by simp[Bj],fun _ _ _=>rfl,AI _,rfl,rfl,rfl⟩
theorem E4 {P:Program} {f:FuncId} {args:List Value} (h:CtQ P f args [] (.bool true)) (W:World):Calls P f args.toArray W fun e W'=>e= .returned (.bool true)∧Below W.heap.size W W':=by
 unfold CtQ Ct at h;refine(h W (st_nil W)).mono fun e W' ⟨v,H',h1,⟨h2,h3⟩,h4⟩=>?_;subst h2;exact⟨h1,E1 h4⟩
theorem cY {P:Program} {W:World} {aa:Nat} {e:TypeId} {k:IntKind} {v:Value} (he:P.underlying e=some (.int k)) (h:Cell.okWide P W .any aa e v):∃n,v= .int k n∧k.has n=true:=by simp only[Cell.okWide,he] at h;cases v<;>simp_all [Cell.ok]
theorem Xv {α:Type} {l:List α} {n:Nat} (h:l.length=n+1):∃a t,l=a::t∧t.length=n:=by
 match l,h with
 |a::t,h=>exact⟨a,t,rfl,by simpa using h⟩
theorem E5 {W W':World} {c:Aa} (hc:∀q∈c,W.heap[q.1]? =some q.2) (h:St W (Bj [c]) W' [c]):Below W.heap.size W W':=
 ⟨h.os,h.tape,h.output,h.size,fun k hk=>by
  by_cases hm:k∈Bj [c]
  ·simp only[Bj,AX,A4,AQ,AN] at hm;obtain⟨q,hq,rfl⟩:=hm;rw[hc q hq];exact h.sat q (by simpa using hq)
  ·exact h.frame k hk hm⟩
theorem nJ {P:Program} {f:FuncId} {args:List Value} {c:Aa} {W:World} (hc:∀q∈c,W.heap[q.1]? =some q.2) (aa:(c.map (·.1)).Nodup) (h:CtQ P f args [c] (.bool true)):Calls P f args.toArray W fun e W'=>e= .returned (.bool true)∧Below W.heap.size W W':=by
 unfold CtQ Ct at h;have ab:St W (Bj [c]) W [c]:=by refine⟨by simpa[Bj] using aa,by simpa using hc,fun k hk=> .inl hk,fun _ _ _=>rfl,AI _,rfl,rfl,rfl⟩
 refine(h W ab).mono fun e W' ⟨v,H',h1,⟨h2,h3⟩,h4⟩=>?_;subst h2 h3;exact⟨h1,E5 hc h4⟩
theorem openU8 {P:Program} {W:World} {aa:Nat} {T e:TypeId} {n:Nat} {v:Value} (hu:(∃fs,P.underlying T=some (.struct fs))∨∃m E,P.underlying T=some (.array m E)) (hct:P.cellTypes P.depth T=some (BT n e)) (hc:P.cellsOf T=n) (he:P.underlying e=some (.int .u8)) (h:Value.okWide P W .any aa T v):∃l:List Nat,l.length=n∧(∀x∈l,x<256)∧v= .agg (l.map fun (x:Nat)=>Value.int .u8 (x:Int)).toArray:=by
 have h':∃cs,v= .agg cs∧cs.size=P.cellsOf T∧Row.okWide P W .any aa T cs:=by rcases hu with⟨fs,hu⟩|⟨m,E,hu⟩<;>simpa only[Value.okWide,hu] using h
 obtain⟨cs,rfl,ac,ts,hts,hm,ab⟩:=h';rw[hct] at hts;obtain rfl:=BC hts;rw[hc] at ac;obtain⟨l⟩:=cs;have g:∀v∈l,∃x:Nat,x<256∧v=Value.int .u8 (x:Int):=by intro v hv;obtain⟨i,hi,rfl⟩:=List.getElem_of_mem hv;obtain⟨u,ae,ag⟩:=ab i l[i] oA19;obtain rfl:=List.eq_of_mem_replicate (AY ae);obtain⟨x,hx,hr⟩:=cY he ag;simp[IntKind.has,IntKind.min,IntKind.max,IntKind.bits,IntKind.signed] at hr;exact⟨x.toNat,oM,by rw[hx,DK oM]⟩
 have:∃xs:List Nat,(∀x∈xs,x<256)∧l=xs.map fun (x:Nat)=>Value.int .u8 (x:Int):=by
  clear ab ac hm h;induction l with
  |nil=>exact⟨[],by simp,rfl⟩
  |cons v l ih=>
   obtain⟨x,hx,rfl⟩:=g v AE;obtain⟨xs,ad,rfl⟩:=ih fun v hv=>g v (AF _ hv);exact⟨x::xs,by simpa using⟨hx,ad⟩,rfl⟩
 obtain⟨xs,ad,rfl⟩:=this;exact⟨xs,by simpa using ac,ad,rfl⟩
theorem E6 {P:Program} {W:World} {aa:Nat} {e:TypeId} {v:Value} (he:P.underlying e=some (.int .u8)) (h:Value.okWide P W .any aa e v):∃x:Nat,x<256∧v= .int .u8 (x:Int):=by
 have h':Cell.okWide P W .any aa e v:=by simpa only[Value.okWide,he] using h
 obtain⟨x,hx,hr⟩:=cY he h';simp[IntKind.has,IntKind.min,IntKind.max,IntKind.bits,IntKind.signed] at hr;exact⟨x.toNat,oM,by rw[hx,DK oM]⟩
theorem E7 {P:Program} {W:World} {aa:Nat} {e:TypeId} {v:Value} (he:P.underlying e=some (.int .u16)) (h:Value.okWide P W .any aa e v):∃x:Nat,x<65536∧v= .int .u16 (x:Int):=by
 have h':Cell.okWide P W .any aa e v:=by simpa only[Value.okWide,he] using h
 obtain⟨x,hx,hr⟩:=cY he h';simp[IntKind.has,IntKind.min,IntKind.max,IntKind.bits,IntKind.signed] at hr;exact⟨x.toNat,oM,by rw[hx,DK oM]⟩
end Go.Proofs.YtaofijjjheiknaaGreat
namespace Go.SL
section
variable {P:Program} {ops:Array Oper} {Q:Exit→Act→World→Prop} {cls:Nat→Oper→Cls} {w0:World} {S:List Nat} {n:Nat} {l:List (Nat×Oper)} {L:Bb} {D:List Deferred} {H:Hp} {qs:List Rd} {k d:Nat} {ty:TypeId} {pos:String} {af:Array Edge} {g:Option (Nat×Bool)}
theorem R.sliceA {T m E sz:Nat} [ho:ArrT P T m E sz] {x:Operand} {b p:Nat} (hx:ev L x=some (.pointer (some ⟨b,p,none⟩))) (hc:cls k ⟨some d,.slice T x none none none,ty,pos,af,g⟩= .pure) (hn:d<n) (h:R P ops Q cls w0 S n l ((d,.slice (some ⟨b,p,none⟩) m m)::L) D H qs):R1 P ops Q cls w0 S n k ⟨some d,.slice T x none none none,ty,pos,af,g⟩ l L D H qs:=
 R1.pureStep hc rfl hn (fun ac hf w=>by
  have hr:(Instr.sliceBounds false m m none none none).run P w= .ok (0,m,m) w:=by simp[Instr.sliceBounds]
  simp[execOp,hf.eval hx,Instr.sliceAt,run_underlying ho.und,Instr.sureAddr,hr,ho.size,Uu]) h
end
end Go.SL
namespace Go.Proofs.YtaofijjjheiknaaGreat
open Go.ChangeShapes Go.WideShapes Go.ChangeAt Go.RowKit Go.SL Go.Tup Go.Spc
theorem nK (cs:List Value):∀(len off:Nat),(∀i,i<len→∃e:IE,∀j,j<2→cs[off+i*2+j]? =(ecl e)[j]?)→∃es:List IE,es.length=len∧(cs.drop off).take (len*2)=es.flatMap ecl
 |0,off,_=>⟨[],rfl,by simp⟩
 |len+1,off,h=>by
  obtain⟨t,ht⟩:=h 0 oM;obtain⟨ts,hl,he⟩:=nK cs len (off+2) (fun i hi=>by
   obtain⟨t,ht⟩:=h (i+1) oM;exact⟨t,fun j hj=>by rw[←ht j hj];congr 1;omega⟩)
  refine⟨t::ts,by simp[hl],?_⟩;have hd:cs.drop off=ecl t++cs.drop (off+2):=by
   apply List.ext_getElem?;intro j;rw[BS];by_cases hj:j<2
   ·rw[List.getElem?_append_left (by simpa[ecl] using hj),←ht j hj];simp
   ·rw[List.getElem?_append_right (by simp[ecl];omega),BS];congr 1;simp[ecl];omega
  rw[hd,A7,←he,List.take_append];rw[A6 (by simp[ecl];omega)];congr 2;simp[ecl];omega
theorem nL {H:Type} {enc:TypeId×Value→H} {P:Program} {w:World} {ae:Nat} {t E:TypeId} {f0 f1 g0 g1:Field} {v:Value} {d:DataW H} {ps:List MemPlace} (ht:P.underlying t=some (.struct #[f0,f1])) (hI:P.underlying f0.type=some (.int .i64)) (hE:P.underlying f1.type=some (.slice E)) (al:P.underlying E=some (.struct #[g0,g1])) (aw:P.underlying g0.type=some (.int .i64)) (am:P.underlying g1.type=some (.int .i64)) (aq:f0.offset=0) (ao:f1.offset=1) (az:P.cellsOf f0.type=1) (av:P.cellsOf f1.type=1) (hct:P.cellsOf t=2) (ce:P.cellsOf E=2) (ax:g0.offset=0) (an:g1.offset=1) (ak:P.cellsOf g0.type=1) (ay:P.cellsOf g1.type=1) (h:DataW.Trod enc P w 0 (fun _=>true) true t v d ps) (au:Value.okWide P w .any ae t v):∃n p m cap es c,v=gv n p m cap∧Rw ecl 2 p m es c∧m≤maxLen∧(∀q∈c,w.heap[q.1]? =some q.2)∧(c.map (·.1)).Nodup:=by
 have h':∃cs,v= .agg cs∧cs.size=P.cellsOf t∧Row.okWide P w .any ae t cs:=by simpa only[Value.okWide,ht] using au
 obtain⟨cs,rfl,ai,_⟩:=h';obtain⟨l⟩:=cs;rw[hct] at ai;obtain⟨a,b,rfl⟩:∃a b,l=[a,b]:=by
  match l,ai with
  |[a,b],_=>exact⟨a,b,rfl⟩
 obtain⟨a6,h⟩:=h;obtain⟨y0,y1,k,_,_,h0,h1⟩:=trod_struct2 ht h;rw[aq,az] at h0;rw[ao,av] at h1;simp only[Value.cells,CX,List.drop_succ_cons,List.take_succ_cons,List.take_zero] at h0 h1;obtain⟨n,hn,_,_⟩:=DataW.trod_int hI h0;obtain rfl:a=Z9 Z8 n:=by simpa using hn
 rcases Go.Deep.open_slice_pairs hE al ce ax an ak ay h1 with⟨hb,_⟩|⟨ad,len,cap,m,k',V0,V1,D0,D1,P0,P1,hb,_,hl,hm,aj,_,hx⟩
 ·obtain rfl:b= .slice none 0 0:=by simpa using hb
  exact⟨n,none,0,0,[],[],rfl,⟨rfl,.inl ⟨rfl,rfl⟩⟩,by decide,by simp,by simp⟩
 ·obtain rfl:b= .slice (some ad) len cap:=by simpa using hb
  by_cases hz:len=0
  ·subst hz;exact⟨n,some ad,0,cap,[],[],rfl,⟨rfl,.inl ⟨rfl,rfl⟩⟩,by decide,by simp,by simp⟩
  ·simp only[if_true] at aj;subst aj;have each:∀i,i<len→∃e:IE,∀j,j<2→w.cell? (ad.add (i*2+j))=(ecl e)[j]? :=by
    intro i hi;obtain⟨x0,x1,t0,t1⟩:=hx i oM;obtain⟨a0,a2,_,_⟩:=DataW.trod_int aw t0;obtain⟨a1,a3,_,_⟩:=DataW.trod_int am t1;refine⟨(a0,a1),fun j hj=>?_⟩
    match j,hj with
    |0,_=>rw[B7,x0];simpa[ecl] using a2
    |1,_=>rw[x1];simpa[ecl] using a3
   obtain⟨bk,off,ag⟩:=ad;obtain⟨t0,a4⟩:=each 0 oM;have aa:=a4 0 oM;have hs:ag=none:=by
    cases ag with
    |none=>rfl
    |some s=>
     exfalso;simp only[Addr.add,World.cell?,ecl,List.getElem?_cons_zero] at aa;revert aa;split<;>simp
   subst hs;have ab:∀i,((⟨bk,off,none⟩:Addr).add i)=⟨bk,off+i,none⟩:=fun i=>Addr.add_mk ..;cases hbk:w.heap[bk]? with
   |none=>rw[ab] at aa;simp[World.cell?,hbk,ecl] at aa
   |some ob=>
    cases ob with
    |cells ac T fz=>
     obtain⟨es,a5,ah⟩:=nK ac.toList len off (fun i hi=>by
      obtain⟨t,ht⟩:=each i hi;refine⟨t,fun j hj=>?_⟩;rw[←ht j hj,ab,cell_of_row w bk _ ac T fz hbk];simp[Nat.add_assoc])
     refine⟨n,_,len,_,es,[(bk,An ac.toList T fz)],rfl,⟨a5,.inr ⟨bk,off,ac.toList,T,fz,rfl,rfl,ah⟩⟩,oM,?_,by simp⟩;intro q hq;simp only[AW] at hq;subst hq;simpa[An] using hbk
    |_=>rw[ab] at aa;simp[World.cell?,hbk,ecl] at aa
open Go.Srt Go.Gr
def brR (k:Int×Int) (ts:List T5):List T5:=(brM 0 0).all k ts++brF ((brM 0 0).st k ts)
theorem E8 (k:Int×Int):brR k []=brF k:=rfl
theorem E9 (k:Int×Int) (t:T5) (ts:List T5):brR k (t::ts)=brO k t++brR (brN k t) ts:=by unfold brR;simp only[Aj.all,Aj.st];rw[AT];rfl
def cn0 (x:Int) (ts:List T5):Nat:=(ts.filter fun u=>decide (u.c0=x)).length
theorem Xw (x:Int) (t:T5) (ts:List T5):cn0 x (t::ts)=(if t.c0=x then 1 else 0)+cn0 x ts:=by
 unfold cn0;by_cases h:t.c0=x
 ·rw[List.filter_cons_of_pos oA15,if_pos h,AJ];omega
 ·rw[List.filter_cons_of_neg oA15,if_neg h];omega
theorem nM {x:Int} {ts:List T5}:cn0 x ts=0↔∀t∈ts,t.c0≠x:=by unfold cn0;rw[List.length_eq_zero_iff,DR];exact⟨fun h t ht hq=>h t ht (by simpa using hq),fun h t ht=>by simpa using h t ht⟩
theorem cn0pos {x:Int} {ts:List T5} (h:cn0 x ts≠0):∃t∈ts,t.c0=x:=BX fun hq=>h (nM.2 fun t ht he=>hq ⟨t,ht,he⟩)
theorem cZ:∀(ts:List T5) (k:Int×Int),ts.Pairwise (fun a c=>a.c0≤c.c0)→(∀t∈ts,k.1≤t.c0)→(1≤k.2∨(k.2=0∧∀t∈ts,k.1<t.c0))→k.2+ts.length≤1000000000→(∀z,z∈brR k ts↔∃x:Int,z=⟨x,0,0,0,0⟩∧((x=k.1∧k.2=1∧cn0 x ts=0)∨(x≠k.1∧cn0 x ts=1)))∧(brR k ts).Pairwise (fun a c=>a.c0<c.c0)∧∀z∈brR k ts,k.1≤z.c0
 |[],k,_,_,_,_=>by
  rw[E8];unfold brF;by_cases h1:k.2=1
  ·rw[if_pos h1];refine⟨fun z=>?_,List.pairwise_singleton _ _,fun z hz=>?_⟩
   ·rw[AW];constructor
    ·rintro rfl;exact⟨k.1,rfl,.inl ⟨rfl,h1,rfl⟩⟩
    ·rintro⟨x,rfl,⟨rfl,_⟩|⟨_,h⟩⟩
     ·rfl
     ·exact absurd h (by unfold cn0;simp)
   ·rw[AW] at hz;subst hz;exact Int.le_refl _
  ·rw[if_neg h1];refine⟨fun z=>?_,.nil,fun z hz=>by cases hz⟩;constructor
   ·intro h;cases h
   ·rintro⟨x,rfl,⟨rfl,h,_⟩|⟨_,h⟩⟩
    ·exact absurd h h1
    ·exact absurd h (by unfold cn0;simp)
 |t::ts,k,hs,hle,hk,hb=>by
  rw[E9];rw[List.pairwise_cons] at hs;rw[AJ] at hb;have ht:=hle t AE;by_cases h1:t.c0=k.1
  ·have ad:1≤k.2:=hk.elim id fun h=>absurd (h.2 t AE) oM;have hw:AL .i64 (k.2+1)=k.2+1:=Ah oM;have hO:brO k t=[]:=by unfold brO;rw[if_pos h1]
   have hN:brN k t=(k.1,k.2+1):=by unfold brN;rw[if_pos h1,hw]
   rw[hO,hN,AB];obtain⟨i1,i2,i3⟩:=cZ ts (k.1,k.2+1) hs.2 (fun u hu=>hle u (AF _ hu)) (.inl oD) oD;dsimp only at i1 i3;refine⟨fun z=>?_,i2,i3⟩;rw[i1];refine exists_congr fun x=>and_congr_right fun _=>?_;rw[Xw];constructor
   ·rintro(⟨_,h,_⟩|⟨h2,h3⟩)
    ·omega
    ·exact .inr ⟨h2,by rw[if_neg oM];omega⟩
   ·rintro(⟨h2,_,h3⟩|⟨h2,h3⟩)
    ·rw[if_pos oM] at h3;omega
    ·rw[if_neg oM] at h3;exact .inr ⟨h2,oM⟩
  ·have hN:brN k t=(t.c0,1):=by unfold brN;rw[if_neg h1]
   have aa:∀u∈t::ts,k.1<u.c0:=by
    intro u hu;rcases AM.1 hu with rfl|hu
    ·omega
    ·have:=hs.1 u hu;omega
   rw[hN];obtain⟨i1,i2,i3⟩:=cZ ts (t.c0,1) hs.2 (fun u hu=>hs.1 u hu) (.inl oD) (by dsimp only;rcases hk with h|h<;>omega);dsimp only at i1 i3;have ab:cn0 k.1 (t::ts)=0:=nM.2 fun u hu=>by have:=aa u hu;omega
   have ac:∀z,z∈brO k t↔k.2=1∧z=⟨k.1,0,0,0,0⟩:=fun z=>by
    unfold brO;rw[if_neg h1];by_cases h2:k.2=1
    ·rw[if_pos h2,AW];exact⟨fun h=>⟨h2,h⟩,fun h=>h.2⟩
    ·rw[if_neg h2];exact⟨fun h=>(by cases h),fun h=>absurd h.1 h2⟩
   refine⟨fun z=>?_,?_,fun z hz=>?_⟩
   ·rw[AS,ac,i1];constructor
    ·rintro(⟨h2,rfl⟩|⟨x,rfl,h⟩)
     ·exact⟨k.1,rfl,.inl ⟨rfl,h2,ab⟩⟩
     ·refine⟨x,rfl,.inr ?_⟩;rcases h with⟨rfl,_,h3⟩|⟨h2,h3⟩
      ·exact⟨h1,by rw[Xw,if_pos rfl];omega⟩
      ·obtain⟨u,hu,ae⟩:=cn0pos (x:=x) (ts:=ts) oM;have:=aa u (AF _ hu);exact⟨oM,by rw[Xw,if_neg oM];omega⟩
    ·rintro⟨x,rfl,⟨rfl,h2,_⟩|⟨h2,h3⟩⟩
     ·exact .inl ⟨h2,rfl⟩
     ·refine .inr ⟨x,rfl,?_⟩;rw[Xw] at h3;by_cases h4:t.c0=x
      ·rw[if_pos h4] at h3;exact .inl ⟨h4.symm,rfl,oM⟩
      ·rw[if_neg h4] at h3;exact .inr ⟨fun h=>h4 h.symm,oM⟩
   ·rw[B8];refine⟨?_,i2,fun a ha b hb=>?_⟩
    ·unfold brO;rw[if_neg h1];split
     ·exact List.pairwise_singleton _ _
     ·exact .nil
    ·rw[(ac a).1 ha|>.2];have:=i3 b hb;dsimp only;omega
   ·rcases AS.1 hz with h|h
    ·rw[(ac z).1 h|>.2];exact Int.le_refl _
    ·have:=i3 z h;omega
theorem FA {bl:List T5} (hp:∀t∈bl,0≤t.c1) (hn:bl.length≤1000000):(∀z,z∈Lk bl↔∃x:Int,z=⟨x,0,0,0,0⟩∧(bl.filter fun u=>decide (u.c1=x)).length=1)∧(Lk bl).Pairwise fun a c=>a.c0<c.c0:=by
 have aa:(srt (ltO o1) false (bl.map fun t=>(⟨t.c1,0,0,0,0⟩:T5))).Perm (bl.map fun t=>⟨t.c1,0,0,0,0⟩):=Bs _;have ab:∀t∈srt (ltO o1) false (bl.map fun t=>(⟨t.c1,0,0,0,0⟩:T5)),0≤t.c0:=fun t ht=>by obtain⟨u,hu,rfl⟩:=AN.1 (aa.mem_iff.1 ht);exact hp u hu
 have hl:(srt (ltO o1) false (bl.map fun t=>(⟨t.c1,0,0,0,0⟩:T5))).length=bl.length:=by rw[aa.length_eq,AR]
 obtain⟨h1,h2,_⟩:=cZ (srt (ltO o1) false (bl.map fun t=>(⟨t.c1,0,0,0,0⟩:T5))) (-1,0) (Sh _) (fun t ht=>by have:=ab t ht;dsimp only;omega) (.inr ⟨rfl,fun t ht=>by have:=ab t ht;dsimp only;omega⟩) oD;refine⟨fun z=>(h1 z).trans (exists_congr fun x=>and_congr_right fun _=>?_),h2⟩;have hc:cn0 x (srt (ltO o1) false (bl.map fun t=>(⟨t.c1,0,0,0,0⟩:T5)))=(bl.filter fun u=>decide (u.c1=x)).length:=by unfold cn0;rw[(aa.filter _).length_eq,List.filter_map,AR];rfl
 rw[hc];constructor
 ·rintro(⟨_,h,_⟩|⟨_,h⟩)
  ·exact absurd h oA18
  ·exact h
 ·intro h;refine .inr ⟨?_,h⟩;rintro rfl;have h0:(bl.filter fun u=>decide (u.c1= -1))=[]:=DR.2 fun u hu=>by have:=hp u hu;simp;omega
  rw[h0] at h;cases h
theorem nN {N:Nat} {es:List IE} {ls:List (List Int)} {lab:List Int} {fl:List Bool} {r b:List T5} {tl:List (Nat×Fo)} {l:List T5} (X:BcX N es ls lab fl r b tl l) {i:Nat} (hi:i<es.length) (hn:Eb es i):(∃j,j<es.length∧j≠i∧Eb es j∧Sg N es ls i j)↔Cn (gE es) (fun j=>j<es.length∧j≠i) (gE es i).1 (gE es i).2:=by
 have hE:∀{j:Nat},j<es.length→Cl es j (gE es j).1 (gE es j).2:=fun hj=>⟨hj,.inl ⟨rfl,rfl⟩⟩
 have ae:∀{j:Nat},j<es.length→Eb es j→(gE es j).1≠(gE es j).2:=fun {j} hj hn h=>by have h1:=X.inn _ (AY (Su hj));rw[Ph hj] at h;unfold inE at h1;unfold Eb at hn;dsimp only at h;omega
 obtain⟨hu,hv⟩:=X.end_lt (hE hi);have aa:=ae hi hn;constructor
 ·rintro⟨j,hj,ad,ag,hs⟩;have ah:=ae hj ag;obtain⟨ha,hb⟩:=X.end_lt (hE hj);have key:∀{w u a:Nat},Cl es i w u→u≠w→a≠w→Nf es j a→a<N→Cn (gE es) (fun j=>j<es.length∧j≠i) u a:=fun {w u a} h1 h2 h3 h4 h5=>by
   obtain⟨g1,g2⟩:=X.end_lt h1;have h6:=hs w g1;rw[Ng X.ap X.inn rfl g1 hi hn (X.end_at h1).2 h2,Ng X.ap X.inn rfl g1 hj ag h4 h3,X.ap.lab_eq g1 g2 h5 h2 h3] at h6;refine h6.mono fun k hk=>?_;obtain⟨k1,k2,k3⟩:=(Ue X.inn).1 hk;refine⟨k1,fun h=>?_⟩;subst h;rcases h1.2 with⟨g,_⟩|⟨_,g⟩
   ·exact k2 g
   ·exact k3 g
  have ai:Cn (gE es) (fun j=>j<es.length∧j≠i) (gE es j).1 (gE es j).2:=Cn.edge (g:=gE es) ⟨hj,ad⟩;have he:=X.end_at (hE hj);obtain⟨a,aj,ak,al,am⟩:∃a,a≠(gE es i).2∧Nf es j a∧a<N∧(a=(gE es j).1∨a=(gE es j).2):=by
   by_cases h:(gE es j).1=(gE es i).2
   ·exact⟨_,fun hq=>ah (h.trans hq.symm),he.2,hb,.inr rfl⟩
   ·exact⟨_,h,he.1,ha,.inl rfl⟩
  obtain⟨d,an,ao,aq,au⟩:∃a,a≠(gE es i).1∧Nf es j a∧a<N∧(a=(gE es j).1∨a=(gE es j).2):=by
   by_cases h:(gE es j).1=(gE es i).1
   ·exact⟨_,fun hq=>ah (h.trans hq.symm),he.2,hb,.inr rfl⟩
   ·exact⟨_,h,he.1,ha,.inl rfl⟩
  have c1:=key (hE hi).symm aa aj ak al;have c2:=key (hE hi) (fun h=>aa h.symm) an ao aq;refine c1.trans (Cn.trans ?_ c2.symm);rcases am with rfl|rfl<;>rcases au with rfl|rfl
  ·exact .refl _
  ·exact ai
  ·exact ai.symm
  ·exact .refl _
 ·intro h;refine BX fun av=>?_;have hX:=h.stay (X:=fun z=>z≠(gE es i).2∧Cn (gE es) (Act es (gE es i).2) (gE es i).1 z) ⟨aa,.refl _⟩ fun j ⟨hj,ad⟩=>by
   have ac:∀{a d:Nat},Cl es j a d→a≠(gE es i).2∧Cn (gE es) (Act es (gE es i).2) (gE es i).1 a→d≠(gE es i).2∧Cn (gE es) (Act es (gE es i).2) (gE es i).1 d:=fun {a d} ab ⟨h1,h2⟩=>by
    have hd:d≠(gE es i).2:=fun hq=>by subst hq;exact av ⟨j,hj,ad,X.end_ne ab h1,X.sg_at (hE hi).symm ab.symm aa h1 h2⟩
    refine⟨hd,h2.trans ?_⟩;have aw:Act es (gE es i).2 j:=(Ue X.inn).2 ⟨hj,by
     rcases ab.2 with⟨g1,g2⟩|⟨g1,g2⟩
     ·exact⟨fun h=>h1 (g1.symm.trans h),fun h=>hd (g2.symm.trans h)⟩
     ·exact⟨fun h=>hd (g1.symm.trans h),fun h=>h1 (g2.symm.trans h)⟩⟩
    exact .one ⟨j,aw,ab.2⟩
   exact⟨ac (hE hj),ac (hE hj).symm⟩
  exact hX.1 rfl
structure Ih (es:List IE) (k:Nat) (bs:List T5):Prop where
 len:bs.length≤k
 rise:bs.Pairwise fun a c=>a.c0<c.c0
 mem:∀z,z∈bs↔∃i:Nat,i<k∧z=⟨(i:Int),0,0,0,0⟩∧¬Cn (gE es) (fun j=>j<es.length∧j≠i) (gE es i).1 (gE es i).2
theorem Ih.zero (es:List IE):Ih es 0 []:=⟨AI _,.nil,fun z=>⟨fun h=>(by cases h),fun ⟨i,h,_⟩=>absurd h (Nat.not_lt_zero i)⟩⟩
theorem Ih.stay {es:List IE} {k:Nat} {bs:List T5} (h:Ih es k bs) (hc:Cn (gE es) (fun j=>j<es.length∧j≠k) (gE es k).1 (gE es k).2):Ih es (k+1) bs:=by
 refine⟨Nat.le_succ_of_le h.len,h.rise,fun z=>(h.mem z).trans ⟨fun ⟨i,h1,h2⟩=>⟨i,oM,h2⟩,fun ⟨i,h1,h2,h3⟩=>⟨i,?_,h2,h3⟩⟩⟩;rcases Nat.eq_or_lt_of_le (Nat.lt_succ_iff.1 h1) with rfl|h4
 ·exact absurd hc h3
 ·exact h4
theorem Ih.more {es:List IE} {k:Nat} {bs:List T5} (h:Ih es k bs) (hc:¬Cn (gE es) (fun j=>j<es.length∧j≠k) (gE es k).1 (gE es k).2):Ih es (k+1) (bs++[⟨(k:Int),0,0,0,0⟩]):=by
 refine⟨by rw[AH];have:=h.len;simp;omega,?_,fun z=>?_⟩
 ·rw[B8];refine⟨h.rise,List.pairwise_singleton _ _,fun a ha b hb=>?_⟩;obtain⟨i,h1,rfl,_⟩:=(h.mem a).1 ha;rw[AW] at hb;subst hb;dsimp only;omega
 ·rw[AS,AW,h.mem];constructor
  ·rintro(⟨i,h1,h2⟩|rfl)
   ·exact⟨i,oM,h2⟩
   ·exact⟨k,oM,rfl,hc⟩
  ·rintro⟨i,h1,h2,h3⟩;rcases Nat.eq_or_lt_of_le (Nat.lt_succ_iff.1 h1) with rfl|h4
   ·exact .inr h2
   ·exact .inl ⟨i,h4,h2,h3⟩
def Pq (m i:Nat):List Bool:=(BT m false).set i true
theorem FC {N:Nat} {es:List IE} (hf:∀e∈es,inE N e) {i:Nat} (j:Nat):Fa es (Pq es.length i) (-1) j↔j<es.length∧j≠i:=by
 unfold Fa Pq;constructor
 ·rintro⟨e,he,_,_,h⟩;have hj:=(AK.1 he).1;refine⟨hj,fun hq=>h ?_⟩;subst hq;rw[List.getElem?_set_self (by simpa using hj)]
 ·rintro⟨hj,ab⟩;have aa:es[j]? =some es[j]:=AG hj;have h1:=hf _ (AY aa);unfold inE at h1;refine⟨_,aa,oM,oM,?_⟩;rw[List.getElem?_set_ne (fun h=>ab h.symm),List.getElem?_replicate,if_pos hj];simp
theorem nO:∀l:List Bool,Fb l=l.flatMap bcl
 |[]=>rfl
 |a::l=>by rw[A7,←nO l];rfl
structure BgX where
 i:Nat
 bs:List T5
 p:Option Addr
 cap:Nat
 ch:Aa
theorem FD (N:Nat) (hN:N≤1000000) (p:Option Addr) (m cap:Nat) (es:List IE) (c:Aa) (hv:Rw ecl 2 p m es c) (hm:m≤1000000) (hf:∀e∈es,inE N e):Ct AC 42 [gv N p m cap] [c] fun v H'=>∃pb kb cb bs,v= .slice pb bs.length kb∧H'=[c,cb]∧RV pb bs.length bs cb∧Ih es m bs:=by
 have hl:=hv.1;have ad:=fun b1 i=>jP N hN p m cap es c hv hm hf (some ⟨b1,0,none⟩) m m (Pq m i) [(b1,row (Fb (Pq m i)) 4)] ⟨by simp[Pq],.inr ⟨b1,0,_,_,_,rfl,rfl,by rw[CX,Nat.mul_one,A6 (by simp[Fb,Pq]),nO]⟩⟩ hm (-1);unfold gv at ad⊢;refine cG func42 fun _=>?_;repeat(refine sA ?_;intros)
 rename_i b1;refine G.loop (X:=BgX) (fun x=>x.i≤m∧Ih es x.i x.bs∧Vec 33 5 x.p x.bs.length x.cap (flat x.bs) x.ch)
  (fun x=>[(4,Z9 Z8 x.i),(3,.slice x.p x.bs.length x.cap),(1,pv b1)])
  (fun x=>[x.ch,[(b1,row [Z9 Z8 N,.slice p m cap] 24)],c]) (fun x=>m-x.i) ⟨0,[],none,0,[]⟩ ⟨AU _,Ih.zero es,Vec.nil _ _⟩ oA7 oA3 ?_
 rintro⟨i,bs,q,qc,ch⟩ ⟨hi,hB,hV⟩;dsimp only at hi hB hV⊢;have av:=hB.len;by_cases ae:i<m;rotate_left
 ·obtain rfl:m=i:=by omega
  repeat(refine sA ?_;intros)
  (refine dP [c,ch] ?_;exact⟨q,qc,ch,bs,rfl,rfl,RV.vec hV,hB⟩)
 obtain⟨b,off,cs,T,fz,rfl,rfl,au,ab⟩:=hv.pos Nr oM;have aa:es[i]? =some es[i]:=AG oM;have q0:=ab i 0 _ _ aa rfl;have q1:=ab i 1 _ _ aa rfl;rw[B7] at q0;have al:=hf _ (AY aa);generalize he:es[i]=e at*;obtain⟨u,v⟩:=e;obtain⟨f1,f2,f3,f4⟩:=al;dsimp only at f1 f2 f3 f4 q0 q1;obtain⟨u,rfl⟩:∃u':Nat,u=(u':Int):=⟨u.toNat,oM⟩
 obtain⟨v,rfl⟩:∃v':Nat,v=(v':Int):=⟨v.toNat,oM⟩
 have am:gE es i=(u,v):=by unfold gE;rw[aa];simp
 have aw:bs.length+1≤maxLen:=by simp only[maxLen];omega
 have an:(Fb (BT m false)).set i (.bool true)=Fb (Pq m i):=jQ _ _ _;have ao:i<(Fb (BT m false)).length:=by simp only[Fb,AR,List.length_replicate];exact ae
 repeat(refine sA ?_;intros)
 rename_i b2;rw[aQ];repeat(refine sA ?_;intros)
 have ah:=ad b2 i;refine cL ah ?_;rintro _ _ ⟨b3,lb,rfl,rfl,hL⟩;try dsimp only[AA,AB]
 have ag:En (gE es) (fun j=>j<es.length∧j≠i) N (-1) lb:=by
  have he:(fun j=>j<es.length∧j≠i)=Fa es (Pq m i) (-1):=by funext j;rw[←hl];exact propext (FC hf j).symm
  rw[he];exact hL
 obtain⟨x,x1,x2,x3,x4⟩:=ag.root (v:=u) oM;obtain⟨y,y1,y2,y3,y4⟩:=ag.root (v:=v) oM;have ax:=Mw x1;have ay:=Mw y1;have ac:x=y↔Cn (gE es) (fun j=>j<es.length∧j≠i) (gE es i).1 (gE es i).2:=by
  rw[am];constructor
  ·intro h;subst h;exact x3.trans y3.symm
  ·intro h;have h2:=ag.same (u:=u) (v:=v) oM oM h;rw[x1,y1,BG] at h2;omega
 clear ah hL ad;by_cases ai:x=y
 ·subst ai;repeat(refine sA ?_;intros)
  refine Dn.round ⟨i+1,bs,q,qc,ch⟩ ⟨ae,hB.stay (ac.1 rfl),hV⟩ oD
 ·have az:(x:Int)≠(y:Int):=oM;repeat(refine sA ?_;intros)
  rename_i p' aj c' aq;have ak:(bs++[(⟨(i:Int),0,0,0,0⟩:T5)]).length=bs.length+1:=by simp
  refine Dn.round ⟨i+1,bs++[⟨(i:Int),0,0,0,0⟩],p',aj,c'⟩ ⟨ae,hB.more fun h=>ai (ac.2 h),by rw[ak,flat_append];exact aq⟩ oD (by dsimp only;rw[ak];repeat(first|exact trivial|refine⟨rfl,?_⟩)) oA4
theorem FE {α:Type} {l:List α} {a:α} (hn:l.Nodup) (ha:a∈l) (h:∀b∈l,b=a):l.length=1:=by
 match l,hn,ha,h with
 |[],_,ha,_=>cases ha
 |[x],_,_,_=>rfl
 |x::y::l,hn,_,h=>
  rw[List.nodup_cons] at hn;exact absurd (by rw[h x AE,←h y (AF _ AE)];exact AE) hn.1
theorem FF {N:Nat} {es:List IE} {ls:List (List Int)} {lab:List Int} {fl:List Bool} {r b:List T5} {tl:List (Nat×Fo)} {l o:List T5} (X:BcX N es ls lab fl r b tl l) (hL:Jd N es fl l o) (hm:es.length≤1000000) {lab2:List Int} (h2:En (gE (peB es fl l o)) (fun i=>i<(peB es fl l o).length) N (-1) lab2) {bs:List T5} (hB:Ih es es.length bs) (az:(Fj l (edT es) (Ay lab2)).length≤es.length):Lk (Fj l (edT es) (Ay lab2))=bs:=by
 have ab:=fun z=>zY X hL hm h2 (z:=z);have an:(Fj l (edT es) (Ay lab2)).Nodup:=(zZ es _).imp fun {a c} h hq=>by rw[hq] at h;omega
 generalize Fj l (edT es) (Ay lab2)=bo at*;obtain⟨h3,h4⟩:=FA (bl:=bo) (fun t ht=>by obtain⟨i,k,_,_,rfl,_⟩:=(ab t).1 ht;dsimp only;omega) oM;refine mP h4 hB.rise fun z=>?_;rw[h3,hB.mem];constructor
 ·rintro⟨x,rfl,h⟩;obtain⟨z0,ah⟩:=List.length_eq_one_iff.1 h;have ai:∀{u:T5},u∈bo→u.c1=x→u=z0:=fun {u} h1 h2=>by have:u∈bo.filter fun u=>decide (u.c1=x):=BQ.2 ⟨h1,by simpa using h2⟩;rw[ah] at this;exact AW.1 this
  have aj:z0∈bo∧z0.c1=x:=by
   have:z0∈bo.filter fun u=>decide (u.c1=x):=by rw[ah];exact AE
   rw[BQ] at this;exact⟨this.1,by simpa using this.2⟩
  obtain⟨i,k,hi,hk,e1,ac,ad,hs,ao⟩:=(ab z0).1 aj.1;have ae:x=(k:Int):=by rw[←aj.2,e1]
  have ak:∀{j:Nat},j<es.length→Eb es j→Sg N es ls j k→(⟨(j:Int),(k:Int),0,0,0⟩:T5)∈bo:=fun {j} hj aa ag=>
   (ab _).2 ⟨j,k,hj,hk,rfl,aa,ad,ag,fun a ha aq au=>ao a ha aq fun v hv=>(hs v hv).trans ((ag v hv).symm.trans (au v hv))⟩
  refine⟨k,hk,by rw[ae],fun hc=>?_⟩;obtain⟨j,hj,ag,aa,av⟩:=(nN X hk ad).2 hc;have g1:=ai (ak hk ad fun _ _=>rfl) ae.symm;have g2:=ai (ak hj aa fun v hv=>(av v hv).symm) ae.symm;have g3:(⟨(j:Int),(k:Int),0,0,0⟩:T5).c0=(⟨(k:Int),(k:Int),0,0,0⟩:T5).c0:=by rw[g1,g2]
  dsimp only at g3;omega
 ·rintro⟨i,hi,rfl,al⟩;have ac:Eb es i:=fun h=>al (by
   have:(gE es i).1=(gE es i).2:=by rw[Ph hi];dsimp only;rw[h]
   rw[this];exact .refl _)
  have am:∀{j:Nat},j<es.length→Eb es j→Sg N es ls i j→j=i:=fun {j} hj aa hs=>BX fun hq=>al ((nN X hi ac).1 ⟨j,hj,hq,aa,hs⟩);have aw:(⟨(i:Int),(i:Int),0,0,0⟩:T5)∈bo:=(ab _).2 ⟨i,i,hi,hi,rfl,ac,ac,fun _ _=>rfl,fun j hj aa hs=>by have:=am oM aa hs;omega⟩;refine⟨i,rfl,FE (a:=⟨(i:Int),(i:Int),0,0,0⟩) (an.filter _) (BQ.2 ⟨aw,by simp⟩) fun u hu=>?_⟩;obtain⟨ax,ay⟩:=BQ.1 hu;obtain⟨j,k,hj,hk,rfl,aa,ad,hs,_⟩:=(ab u).1 ax;have a0:(k:Int)=(i:Int):=of_decide_eq_true ay;obtain rfl:k=i:=by omega
  obtain rfl:=am hj aa fun v hv=>(hs v hv).symm;rfl
theorem nP (es:List IE):∀k,∃bs,Ih es k bs
 |0=>⟨[],Ih.zero es⟩
 |k+1=>by
  obtain⟨bs,h⟩:=nP es k;by_cases hc:Cn (gE es) (fun j=>j<es.length∧j≠k) (gE es k).1 (gE es k).2
  ·exact⟨_,h.stay hc⟩
  ·exact⟨_,h.more hc⟩
end Go.Proofs.YtaofijjjheiknaaGreat
