/-
  Parts of the proof, put together: MeetFaults0. No condition.
-/
import Derived.Test.YtaofijjjheiknaaGreatM16
set_option linter.unusedVariables false
set_option linter.unusedSimpArgs false
set_option linter.unnecessarySimpa false
set_option maxHeartbeats 4000000
open Go.IntKind renaming wrap→AJ
open Go.Proofs.Tryz renaming prog→AC
open Int renaming tdiv_eq_ediv_of_nonneg→CE,tmod_eq_emod_of_nonneg→CX
open List renaming cons_append→AA,nil_append→AB,mem_cons→AM,append_assoc→AP,append_nil→AQ,flatten_cons→AW,flatten_nil→A5,not_mem_nil→B6,drop_zero→CT,set_cons_zero→ED,take_zero→EL
open Nat renaming reduceAdd→AD
namespace Go.Proofs.YtaofijjjheiknaaGreat
open Go.SL Go.Spc Go.Tup Go.Srt Go.Gr
theorem bFi (bw bd ba bs ro:Nat) (ac:80≤ro) (cd ca cs:aAc) (hW:Wc bd ba bs (wk0 10 9000 ro) cd ca cs) (N:Nat) (hN:N≤40) (p:Option Addr) (m cap:Nat) (es:List IE) (c:aAc) (hv:Rw ecl 2 p m es c) (hm:m≤1000) (hf:∀e∈es,inE N e)
  (p2:Option Addr) (n2 aa:Nat) (qs:List T5) (c2:aAc) (hq:RV p2 n2 qs c2) (ad:n2≤90) (ab:∀t∈qs,okT 3 t):
  Ct AC 33 [pv bw,gv N p m cap,.slice p2 n2 aa] [aAi bw bd ba bs,cd,ca,cs,c,c2] fun v H'=>∃cd' ca' cs' W' fa fb fc fq lab fl r bt tl l,v= .tuple #[.agg (fl4 fa++fl4 fb++fl4 fc++fl4 fq).toArray,.bool true]∧H'=[aAi bw bd ba bs,cd',ca',cs',c,c2]∧Wc bd ba bs W' cd' ca' cs'∧bPi ro N es qs W' fa fb fc fq lab fl r bt tl l:=by
 refine Ct.convP (bDc bw bd ba bs ro ac cd ca cs hW N hN p m cap es c hv hm hf p2 n2 aa qs c2 hq ad ab (c++c2) c2 c (.refl _) List.perm_append_comm) ?_ ?_
 ·simp only[AW,A5,AQ,AP];exact .refl _
 ·rintro v H' ⟨cd',ca',cs',W',fa,fb,fc,fq,lab,fl,r,bt,tl,l,h1,rfl,h2⟩
  refine⟨[aAi bw bd ba bs,cd',ca',cs',c,c2],⟨cd',ca',cs',W',fa,fb,fc,fq,lab,fl,r,bt,tl,l,h1,rfl,h2⟩,?_⟩
  simp only[AW,A5,AQ,AP];exact .refl _
theorem MeetFaults_ct (n:Int) (p:Option Addr) (m cap:Nat) (es:List IE) (c:aAc) (hv:Rw ecl 2 p m es c) (hm:m≤maxLen) (e:Nat) (he:e<65536):
  CtQ AC 10 [gv n p m cap,.int .u16 (e:Int)] [c] (.bool true):=by
 have ad:=eQ0
 have ac:=aJa
 have aa:=aJk n p m cap es c hv hm
 have ab:=aTp n p m cap 20 30 hm
 have a7:=hv.1
 have ap:Ct AC 20 [.int .i64 9] [] fun v H'=>
  ∃bw bd ba bs cd ca cs,v=pv bw∧H'=[aAi bw bd ba bs,cd,ca,cs]∧Wc bd ba bs (wk0 10 9000 90) cd ca cs:=aJq 9 oM
 have e4:AJ .i64 ((e:Int).tmod 2000)=((e%2000:Nat):Int):=by rw[CX oM,aAd oM];omega
 have e5:(e:Int).tmod 2000=((e%2000:Nat):Int):=by rw[CX oM];omega
 unfold gv at aa ab⊢
 cases hfm:aDp n es with
 |false=>
  rw[hfm] at aa
  refine Ct.go Tryz.func10 Tryz.ntmps10 fun w0=> ?_
  repeat(first|(refine st ?_;intros)|refine cq ac ?_|refine cq aa ?_|refine cq ab ?_|refine cq hWD ?_)
  (refine Dn.post (Hr:=[c]) Tryz.results10 (hR:= ?_);exact⟨rfl,rfl⟩)
 |true=>
 rw[hfm] at aa
 by_cases ag:n≤20∧(m:Int)≤30
 rotate_left
 ·rw[aBu ag] at ab
  refine Ct.go Tryz.func10 Tryz.ntmps10 fun w0=> ?_
  repeat(first|(refine st ?_;intros)|refine cq ac ?_|refine cq aa ?_|refine cq ab ?_|refine cq hWD ?_)
  (refine Dn.post (Hr:=[c]) Tryz.results10 (hR:= ?_);exact⟨rfl,rfl⟩)
 rw[aBf ag] at ab
 obtain⟨h0,ai⟩:=aLn hfm
 obtain⟨N,rfl⟩:∃N:Nat,n=(N:Int):=⟨n.toNat,oM⟩
 by_cases aq:N=0
 ·subst aq
  refine Ct.go Tryz.func10 Tryz.ntmps10 fun w0=> ?_
  repeat(first|(refine st ?_;intros)|refine cq ac ?_|refine cq aa ?_|refine cq ab ?_|refine cq hWD ?_)
  (refine Dn.post (Hr:=[c]) Tryz.results10 (hR:= ?_);exact⟨rfl,rfl⟩)
 have a8:AJ .i64 ((N:Int)-1)=(N:Int)-1:=aAd oM
 have a9:AJ .i64 ((N:Int).tdiv 2)=((N/2:Nat):Int):=by rw[CE oM,aAd oM];omega
 have bc:(N:Int).tdiv 2=((N/2:Nat):Int):=by rw[CE oM];omega
 have au:∀t∈([⟨3,0,(N:Int)-1,0,0⟩,⟨1,((N/2:Nat):Int),0,0,0⟩]:List T5),okT 3 t:=by
  intro t ht
  simp only[AM,B6,or_false] at ht
  rcases ht with rfl|rfl
  ·exact aUm ⟨by decide,by decide⟩ ⟨by decide,by decide⟩ ⟨oM,oM⟩
  ·exact aUm ⟨by decide,by decide⟩ ⟨oM,oM⟩ ⟨by decide,by decide⟩
 refine Ct.go Tryz.func10 Tryz.ntmps10 fun w0=> ?_
 repeat(first|(refine st ?_;intros)|refine cq ac ?_|refine cq aa ?_|refine cq ab ?_|refine cq hWD ?_)
 refine R.call (hct:=ap) (h:= ?_)
 rintro _ _ ⟨bw,bd,ba,bs,cd,ca,cs,rfl,rfl,hW⟩
 try dsimp only[AA,AB]
 have hWD:=aGx bw bd ba bs
 repeat(first|(refine st ?_;intros)|refine cq ac ?_|refine cq aa ?_|refine cq ab ?_|refine cq hWD ?_)
 rename_i bq
 have ah:=bFi bw bd ba bs 90 oM cd ca cs hW N oM p m cap es c hv oM ai (some ⟨bq,0,none⟩) 2 2 [⟨3,0,(N:Int)-1,0,0⟩,⟨1,((N/2:Nat):Int),0,0,0⟩] [(bq,row [.int .i64 3,.int .i64 0,.int .i64 ((N:Int)-1),.int .i64 0,.int .i64 0,.int .i64 1,.int .i64 ((N/2:Nat):Int),.int .i64 0,.int .i64 0,.int .i64 0] 33)] ⟨rfl,.inr ⟨bq,0,_,_,_,rfl,rfl,rfl⟩⟩ oM au
 unfold gv at ah
 simp only[fl4,AA,AB,AP] at ah
 refine R.call (hct:=ah) (h:= ?_)
 rintro _ _ ⟨av,aw,ax,W1,fa,fb,fc,fq,lab,fl,r,bt,tl,l,rfl,rfl,aj,hL⟩
 try dsimp only[AA,AB]
 have ay:=bAc bd W1.δ av aj.dev ((e%2000:Nat):Int) oM
 repeat(first|(refine st ?_;intros)|refine cq ac ?_|refine cq aa ?_|refine cq ab ?_|refine cq hWD ?_)
 refine R.call (hct:=ay) (h:= ?_)
 rintro _ _ ⟨az,rfl,rfl,a0⟩
 try dsimp only[AA,AB]
 have a1:=aj.flt a0
 have ak:=aSj bw bd ba bs 90 oM N oM es oM ai (W1.flt ((e%2000:Nat):Int)) az aw ax a1 fa fb fc fq (hL.ons.flt _) hL.parts hL.tab hL.ia hL.ib hL.ic hL.iq hL.wa hL.wb hL.wc hL.wq oA15 hL.acts
 rw[ad,ad,ad,ad] at ak
 repeat(first|(refine st ?_;intros)|refine cq ac ?_|refine cq aa ?_|refine cq ab ?_|refine cq hWD ?_)
 refine R.call (hct:=ak) (h:= ?_)
 rintro _ _ ⟨x,er,be,al,am,W5,rfl,rfl,ae,a2,an,bf,bg,hc⟩
 dsimp only[AA,AB]
 have ao:∀b':Nat,aBg W5.σ.free+aUu [fa,fb,fc,fq,x]=9000→CtQ AC 32 [pv bw,.slice (some ⟨b',0,none⟩) 5 5] [aAi bw bd ba bs,al,am,[(b',row [.int .i64 (fa.first:Int),.int .i64 (fa.blocks:Int),.int .i64 (fa.width:Int),.int .i64 (fa.count:Int),.int .i64 (fb.first:Int),.int .i64 (fb.blocks:Int),.int .i64 (fb.width:Int),.int .i64 (fb.count:Int),.int .i64 (fc.first:Int),.int .i64 (fc.blocks:Int),.int .i64 (fc.width:Int),.int .i64 (fc.count:Int),.int .i64 (fq.first:Int),.int .i64 (fq.blocks:Int),.int .i64 (fq.width:Int),.int .i64 (fq.count:Int),.int .i64 (x.first:Int),.int .i64 (x.blocks:Int),.int .i64 (x.width:Int),.int .i64 (x.count:Int)] 42)]] (.bool true):=fun b' ht=>
  aQl bw bd ba bs W5 al am ae.ar ae.sp (some ⟨b',0,none⟩) 5 5 [fa,fb,fc,fq,x] _ ⟨rfl,.inr ⟨b',0,_,_,_,rfl,rfl,rfl⟩⟩ oM a2 ht
 generalize aBw (aAy lab) bt l [⟨3,0,(N:Int)-1,0,0⟩,⟨1,((N/2:Nat):Int),0,0,0⟩]=oo at hc
 clear hL
 rcases hc with⟨rfl,_,_,_,_,a3⟩|⟨rfl,a4,hr⟩
 ·have ht:=aOj (fs:=[fa,fb,fc,fq,x]) ae a3.live an
  rw[ad]
  repeat(first|(refine st ?_;intros)|refine cq ac ?_|refine cq aa ?_|refine cq ab ?_|refine cq hWD ?_)
  simp only[aFm,Int.reduceToNat,Nat.reduceMul,AD,List.drop_succ_cons,CT,List.take_succ_cons,EL,List.set_cons_succ,ED]
  refine R.call (hct:=ao _ ht) (h:= ?_)
  rintro _ _ ⟨rfl,rfl⟩
  try dsimp only[AA,AB]
  repeat(first|(refine st ?_;intros)|refine cq ac ?_|refine cq aa ?_|refine cq ab ?_|refine cq hWD ?_)
  (refine Dn.post (Hr:=[c]) Tryz.results10 (hR:= ?_);exact⟨rfl,rfl⟩)
 ·have a5:=aOj (fs:=[fa,fb,fc,fq]) ae a4 an
  have ht:aBg W5.σ.free+aUu [fa,fb,fc,fq,⟨0,0,0,0⟩]=9000:=by
   rw[←a5];simp[aUu]
  obtain rfl:er=6:=by
   rcases hr with⟨h6,_⟩|⟨_,a6⟩
   ·exact h6
   ·refine absurd ⟨?_,?_⟩ a6
    ·intro q hq
     simp only[AM,B6,or_false] at hq
     unfold okM
     rcases hq with rfl|rfl
     ·dsimp only;omega
     ·dsimp only;omega
    ·simp
  clear hr
  rw[ad]
  repeat(first|(refine st ?_;intros)|refine cq ac ?_|refine cq aa ?_|refine cq ab ?_|refine cq hWD ?_)
  simp only[aFm,Int.reduceToNat,Nat.reduceMul,AD,List.drop_succ_cons,CT,List.take_succ_cons,EL,List.set_cons_succ,ED]
  refine R.call (hct:=ao _ ht) (h:= ?_)
  rintro _ _ ⟨rfl,rfl⟩
  try dsimp only[AA,AB]
  repeat(first|(refine st ?_;intros)|refine cq ac ?_|refine cq aa ?_|refine cq ab ?_|refine cq hWD ?_)
  (refine Dn.post (Hr:=[c]) Tryz.results10 (hR:= ?_);exact⟨rfl,rfl⟩)
end Go.Proofs.YtaofijjjheiknaaGreat
