/-
  Parts of the proof, put together (7). No condition.
-/
import Derived.Test.YtaofijjjheiknaaGreatM6
set_option linter.unusedVariables false
set_option linter.unusedSimpArgs false
set_option linter.unnecessarySimpa false
set_option maxHeartbeats 4000000
open Classical renaming byContradiction→DI
open Go.IntKind renaming wrap→AJ
open Go.Proofs.Tryz renaming prog→AC
open Int renaming natCast_add→DA
open List renaming cons_append→AA,nil_append→AB,getElem?_eq_getElem→AE,length_append→AF,mem_cons_self→AH,mem_cons_of_mem→AI,getD_eq_getElem?_getD→AN,mem_append→AO,append_assoc→AP,append_nil→AQ,mem_singleton→AT,length_nil→AV,flatten_cons→AW,map_append→AX,length_map→AY,map_cons→AZ,take_of_length_le→A4,flatten_nil→A5,length_take→BN,take_add_one→BP,pairwise_append→BS,getElem_mem→B5,filter_append→CC,sum_cons→DM,length_eq_zero_iff→EF
open List.Pairwise renaming nil→CI
open List.Perm renaming append_left→BE,swap→CQ,append_right→DB
open Nat renaming reduceAdd→AD,le_refl→AG,zero_le→AS,mul_le_mul_right→A7,le_trans→BB,succ_mul→BG,div_le_div_right→BX,le_div_iff_mul_le→CN,div_le_self→CW,add_le_add_right→DH,add_sub_cancel→DK,div_mul_le_self→DN,add_mul→DQ,le_mul_of_pos_left→DW,div_le_iff_le_mul_add_pred→DX,le_of_lt→EJ
namespace Go.Proofs.YtaofijjjheiknaaGreat
open Go.SL Go.Spc Go.Tup Go.Srt
theorem aNt (i j:Nat):((i:Int)+(j:Int)).fdiv (2^min (Int.toNat 1) IntKind.u64.bits)=(((i+j)/2:Nat):Int):=by
 have e0:(2:Int)^min (Int.toNat 1) IntKind.u64.bits=2:=by decide
 rw[e0,Int.fdiv_eq_ediv_of_nonneg _ oA14]
 omega
theorem Srt.rot {o:T5} {ts us:List T5} {a m b c d:Nat} (h1:a≤m) (h2:m≤b) (hb:b≤ts.length) (hl:us.length=ts.length) (hr:∀k,at_ us k=aHq ts a m b k)
  (hc:∀i j,a≤i→i<m→m≤j→j<b→ltO o (at_ ts j) (at_ ts i)=true) (aa:c≤a) (ab:b≤d):Srt o ts us c d:=
 ⟨bOm (aBy o) h1 h2 hb hl hr hc,(Ins.rot h1 h2 hl hr).wide aa ab⟩
theorem Srt.trans {o:T5} {ts us vs:List T5} {a b:Nat} (h:Srt o ts us a b) (h2:Srt o us vs a b):Srt o ts vs a b:=⟨h.1.trans h2.1,h.2.trans h2.2⟩
theorem Srt.wide {o:T5} {ts us:List T5} {a b c d:Nat} (h:Srt o ts us a b) (h1:c≤a) (h2:b≤d):Srt o ts us c d:=⟨h.1,h.2.wide h1 h2⟩
theorem Srt.refl (o:T5) (ts:List T5) (a b:Nat):Srt o ts ts a b:=⟨Go.Srt.Sp.refl _ _,Ins.refl _ _ _⟩
section
variable (bx:Nat) (g:Gr) (k n:Nat) (o:T5) (rest:List Int)
theorem aPf:∀(d:Nat) (ts:List T5) (h:aKf g k n ts) (a m b:Nat),b-a≤d→a<m→m<b→b≤n→Seg (ltO o) ts a m→Seg (ltO o) ts m b→
  Ct AC 249 [aQw bx,.int .i64 (a:Int),.int .i64 (m:Int),.int .i64 (b:Int)] (aEz bx g k o ts rest) fun v H'=>
   v= .tuple #[]∧∃ts',H'=aEz bx g k o ts' rest∧aKf g k n ts'∧Srt o ts ts' a b∧Seg (ltO o) ts' a b:=by
 intro d
 induction d with
 |zero=>intro ts h a m b hd av aw;omega
 |succ d ih=>
 intro ts h a m b hd av aw hb s1 s2
 have bv:=h.n_le
 have ax:=aBy o
 have ak:=h.len
 have e1:AJ .i64 ((m:Int)-(a:Int))=((m-a:Nat):Int):=by rw[aAd oM];omega
 have e2:AJ .i64 ((b:Int)-(m:Int))=((b-m:Nat):Int):=by rw[aAd oM];omega
 refine Ct.go Tryz.func249 Tryz.ntmps249 fun w0=> ?_
 by_cases ay:m=a+1
 ·clear ih
  repeat(first|(refine st ?_;intros)|refine cq hL ?_)
  refine G.loop (X:=Nat×Nat) (fun x=>m≤x.1∧x.1≤x.2∧x.2≤b∧(x.1=m∨ltO o (at_ ts (x.1-1)) (at_ ts a)=true)∧(x.2=b∨ltO o (at_ ts x.2) (at_ ts a)=false))
   (fun x=>[(9,.int .i64 (x.2:Int)),(8,.int .i64 (x.1:Int)),(0,aQw bx),(1,.int .i64 (a:Int))])
   (fun x=>aEz bx g k o ts rest) (fun x=>x.2-x.1) (m,b) ⟨AG _,EJ aw,AG _,.inl rfl,.inl rfl⟩ (body:= ?_)
  rintro⟨i,j⟩ ⟨ae,az,ag,f1,f2⟩
  dsimp only at ae az ag f1 f2⊢
  by_cases a0:i<j
  ·have al:=aNt i j
   generalize hh:(i+j)/2=c at al
   have a5:i≤c∧c<j:=oM
   have e3:AJ .i64 ((i:Int)+(j:Int))=((i+j:Nat):Int):=by rw[←DA];exact aAd oM
   have hL:=aSv h bx o rest c a oM oM
   cases hl:ltO o (at_ ts c) (at_ ts a) with
   |true=>
    rw[hl] at hL
    repeat(first|(refine st ?_;intros)|refine cq hL ?_)
    exact Dn.round (c+1,j) ⟨oM,oM,ag,.inr (by simpa using hl),f2⟩ oD
   |false=>
    rw[hl] at hL
    repeat(first|(refine st ?_;intros)|refine cq hL ?_)
    exact Dn.round (i,c) ⟨ae,oM,oM,f1,.inr hl⟩ oD
  ·obtain rfl:i=j:=by omega
   repeat(first|(refine st ?_;intros)|refine cq hL ?_)
   refine G.loop (X:=Nat×List T5) (fun x=>a≤x.1∧x.1+1≤i∧aKf g k n x.2∧∀q,at_ x.2 q=aHq ts a (a+1) (x.1+1) q)
    (fun x=>[(11,.int .i64 (x.1:Int)),(8,.int .i64 (i:Int)),(0,aQw bx)])
    (fun x=>aEz bx g k o x.2 rest) (fun x=>i-x.1) (a,ts) ⟨AG _,oD,h,fun q=>(bBp ts (.inr rfl) oM (AG _) q).symm⟩ (body:= ?_)
   rintro⟨c,us⟩ ⟨a6,bk,aa,hq⟩
   dsimp only at a6 bk aa hq⊢
   have e3:AJ .i64 ((i:Int)-1)=((i-1:Nat):Int):=by rw[aAd oM];omega
   by_cases hc:c<i-1
   ·have hS:=aSw aa bx o rest c (c+1) oM oM oM
    have e4:AJ .i64 ((c:Int)+1)=((c+1:Nat):Int):=by rw[aAd oM];omega
    repeat(first|(refine st ?_;intros)|refine cq hL ?_)
    refine R.invoke (hct:=hS) (h:= ?_)
    rintro _ _ ⟨rfl,rfl⟩
    try dsimp only[AA,AB]
    repeat(first|(refine st ?_;intros)|refine cq hL ?_)
    exact Dn.round (c+1,sw us c (c+1)) ⟨oM,oD,aa.sw oM oM,rot_up a6 (by rw[aa.len];omega) hq⟩ oD
   ·obtain rfl:i=c+1:=by omega
    obtain⟨g1,g2⟩:=ins1 ax ay ae ag s2 f1 f2 (by rw[ay];exact hq)
    repeat(first|(refine st ?_;intros)|refine cq hL ?_)
    (refine Dn.post (Hr:=aEz bx g k o us rest) Tryz.results249 (hR:= ?_);exact⟨rfl,us,rfl,aa,Srt.rot oM ae oM (by rw[aa.len,ak]) (by rw[ay];exact hq) g1 (AG _) ag,g2⟩)
 by_cases a1:b=m+1
 ·clear ih
  repeat(first|(refine st ?_;intros)|refine cq hL ?_)
  refine G.loop (X:=Nat×Nat) (fun x=>a≤x.1∧x.1≤x.2∧x.2≤m∧(x.1=a∨ltO o (at_ ts m) (at_ ts (x.1-1))=false)∧(x.2=m∨ltO o (at_ ts m) (at_ ts x.2)=true))
   (fun x=>[(13,.int .i64 (x.2:Int)),(12,.int .i64 (x.1:Int)),(0,aQw bx),(2,.int .i64 (m:Int))])
   (fun x=>aEz bx g k o ts rest) (fun x=>x.2-x.1) (a,m) ⟨AG _,EJ av,AG _,.inl rfl,.inl rfl⟩ (body:= ?_)
  rintro⟨i,j⟩ ⟨ae,az,ag,f1,f2⟩
  dsimp only at ae az ag f1 f2⊢
  by_cases a0:i<j
  ·have al:=aNt i j
   generalize hh:(i+j)/2=c at al
   have a5:i≤c∧c<j:=oM
   have e3:AJ .i64 ((i:Int)+(j:Int))=((i+j:Nat):Int):=by rw[←DA];exact aAd oM
   have hL:=aSv h bx o rest m c oM oM
   cases hl:ltO o (at_ ts m) (at_ ts c) with
   |true=>
    rw[hl] at hL
    repeat(first|(refine st ?_;intros)|refine cq hL ?_)
    exact Dn.round (i,c) ⟨ae,oM,oM,f1,.inr hl⟩ oD
   |false=>
    rw[hl] at hL
    repeat(first|(refine st ?_;intros)|refine cq hL ?_)
    exact Dn.round (c+1,j) ⟨oM,oM,ag,.inr (by simpa using hl),f2⟩ oD
  ·obtain rfl:i=j:=by omega
   repeat(first|(refine st ?_;intros)|refine cq hL ?_)
   refine G.loop (X:=Nat×List T5) (fun x=>i≤x.1∧x.1≤m∧aKf g k n x.2∧∀q,at_ x.2 q=aHq ts x.1 m (m+1) q)
    (fun x=>[(15,.int .i64 (x.1:Int)),(12,.int .i64 (i:Int)),(0,aQw bx)])
    (fun x=>aEz bx g k o x.2 rest) (fun x=>x.1) (m,ts) ⟨oD,AG _,h,fun q=>(bBp ts (.inl rfl) (AG _) oM q).symm⟩ (body:= ?_)
   rintro⟨c,us⟩ ⟨bo,a7,aa,hq⟩
   dsimp only at bo a7 aa hq⊢
   by_cases hc:i<c
   ·have hS:=aSw aa bx o rest c (c-1) oM oM oM
    have e4:AJ .i64 ((c:Int)-1)=((c-1:Nat):Int):=by rw[aAd oM];omega
    repeat(first|(refine st ?_;intros)|refine cq hL ?_)
    refine R.invoke (hct:=hS) (h:= ?_)
    rintro _ _ ⟨rfl,rfl⟩
    try dsimp only[AA,AB]
    repeat(first|(refine st ?_;intros)|refine cq hL ?_)
    exact Dn.round (c-1,sw us c (c-1)) ⟨oD,oD,aa.sw oM oM,bLx oM a7 (by rw[aa.len];omega) hq⟩ oD
   ·obtain rfl:c=i:=by omega
    obtain⟨g1,g2⟩:=ins2 ax a1 ae ag s1 f1 f2 (by rw[a1];exact hq)
    repeat(first|(refine st ?_;intros)|refine cq hL ?_)
    (refine Dn.post (Hr:=aEz bx g k o us rest) Tryz.results249 (hR:= ?_);exact⟨rfl,us,rfl,aa,Srt.rot ag oM oM (by rw[aa.len,ak]) (by rw[a1];exact hq) g1 ae (AG _),g2⟩)
 have e3:AJ .i64 ((a:Int)+(b:Int))=((a+b:Nat):Int):=by rw[←DA];exact aAd oM
 have al:=aNt a b
 generalize a8:(a+b)/2=mid at al
 have e4:AJ .i64 ((mid:Int)+(m:Int))=((mid+m:Nat):Int):=by rw[←DA];exact aAd oM
 obtain⟨ah,ac⟩:∃ah,ah=if mid<m then mid+m-b else a:=⟨_,rfl⟩
 obtain⟨ad,ab⟩:∃ad,ad=if mid<m then mid else m:=⟨_,rfl⟩
 have hN:mid+m≤a+b∨mid<m:=oM
 have e5:AJ .i64 (((mid+m:Nat):Int)-1)=((mid+m-1:Nat):Int):=by rw[aAd oM];omega
 have am:ah≤ad:=by split at ac<;>split at ab<;>omega
 have a9:ad≤m:=by split at ab<;>omega
 repeat(first|(refine stn ?_;intros)|refine cq hL ?_)
 apply G.seq
 repeat(first|(refine stn ?_;intros)|refine cq hL ?_)
 apply G.seq
 repeat(first|(refine stn ?_;intros)|refine cq hL ?_)
 apply G.seq
 repeat(first|(refine stn ?_;intros)|refine cq hL ?_)
 apply G.seq
 repeat(first|(refine stn ?_;intros)|refine cq hL ?_)
 apply G.seq
 repeat(first|(refine stn ?_;intros)|refine cq hL ?_)
 apply G.seq
 repeat(first|(refine stn ?_;intros)|refine cq hL ?_)
 apply G.seq
 repeat(first|(refine stn ?_;intros)|refine cq hL ?_)
 refine G.cut (D':=[]) (X:=Unit) (fun _=>True) (fun _=>[(18,.int .i64 (ah:Int)),(19,.int .i64 (ad:Int)),(17,.int .i64 ((mid+m:Nat):Int)),(16,.int .i64 (mid:Int)),(0,aQw bx),(1,.int .i64 (a:Int)),(2,.int .i64 (m:Int)),(3,.int .i64 (b:Int))])
  (fun _=>aEz bx g k o ts rest) ?_ ?_
 ·by_cases bc:mid<m
  ·rw[if_pos bc] at ac ab
   have e6:AJ .i64 (((mid+m:Nat):Int)-(b:Int))=(ah:Int):=by rw[aAd oM];omega
   subst ab
   repeat(first|(refine st ?_;intros)|refine cq hL ?_)
   exact Dn.meet () trivial
  ·rw[if_neg bc] at ac ab
   subst ac ab
   repeat(first|(refine st ?_;intros)|refine cq hL ?_)
   exact Dn.meet () trivial
 rintro⟨⟩-
 repeat(first|(refine st ?_;intros)|refine cq hL ?_)
 refine G.loop (X:=Nat×Nat) (fun x=>ah≤x.1∧x.1≤x.2∧x.2≤ad∧(x.1=ah∨ltO o (at_ ts (mid+m-x.1)) (at_ ts (x.1-1))=false)∧(x.2=ad∨ltO o (at_ ts (mid+m-1-x.2)) (at_ ts x.2)=true))
  (fun x=>[(20,.int .i64 ((mid+m-1:Nat):Int)),(18,.int .i64 (x.1:Int)),(19,.int .i64 (x.2:Int)),(17,.int .i64 ((mid+m:Nat):Int)),(16,.int .i64 (mid:Int)),(0,aQw bx),(1,.int .i64 (a:Int)),(2,.int .i64 (m:Int)),(3,.int .i64 (b:Int))])
  (fun _=>aEz bx g k o ts rest) (fun x=>x.2-x.1) (ah,ad) ⟨AG _,am,AG _,.inl rfl,.inl rfl⟩ (body:= ?_)
 rintro⟨s,r⟩ ⟨aq,bp,au,f1,f2⟩
 dsimp only at aq bp au f1 f2⊢
 by_cases a0:s<r
 ·have be:=aNt s r
  generalize hh:(s+r)/2=c at be
  have a5:s≤c∧c<r:=oM
  have bz:mid+m-1-c<b:=by split at ac<;>omega
  have e6:AJ .i64 ((s:Int)+(r:Int))=((s+r:Nat):Int):=by rw[←DA];exact aAd oM
  have e7:AJ .i64 (((mid+m-1:Nat):Int)-(c:Int))=((mid+m-1-c:Nat):Int):=by rw[aAd oM];omega
  have hL:=aSv h bx o rest (mid+m-1-c) c oM oM
  cases hl:ltO o (at_ ts (mid+m-1-c)) (at_ ts c) with
  |true=>
   rw[hl] at hL
   repeat(first|(refine st ?_;intros)|refine cq hL ?_)
   exact Dn.round (s,c) ⟨aq,oM,oM,f1,.inr hl⟩ oD
  |false=>
   rw[hl] at hL
   repeat(first|(refine st ?_;intros)|refine cq hL ?_)
   exact Dn.round (c+1,r) ⟨oM,oM,au,.inr (by dsimp only;rw[show mid+m-(c+1)=mid+m-1-c by omega];simpa using hl),f2⟩ oD
 obtain rfl:s=r:=by omega
 obtain⟨e,he⟩:∃e,e=mid+m-s:=⟨_,rfl⟩
 have an:=fun (us:List T5) hr=>bHa ax (l1:=us) av aw s1 s2 a8.symm rfl he ac ab aq au f1 f2 hr
 have bq:a≤s∧s≤m∧m≤e∧e≤b∧s≤mid∧mid≤e∧mid-s=e-m:=by split at ac<;>split at ab<;>omega
 clear f1 f2 aq au a0 ac ab am a9
 obtain⟨b1,b2,b3,b4,b5,b6,b7⟩:=bq
 have e6:AJ .i64 (((mid+m:Nat):Int)-(s:Int))=(e:Int):=by rw[aAd oM];omega
 repeat(first|(refine stn ?_;intros)|refine cq hL ?_)
 apply G.seq
 repeat(first|(refine stn ?_;intros)|refine cq hL ?_)
 apply G.seq
 repeat(first|(refine stn ?_;intros)|refine cq hL ?_)
 apply G.seq
 repeat(first|(refine stn ?_;intros)|refine cq hL ?_)
 refine G.cut (D':=[]) (X:=List T5) (fun us=>aKf g k n us∧Srt o ts us a b∧∀q,at_ us q=aHq ts s m e q) (fun _=>[(22,.int .i64 (e:Int)),(18,.int .i64 (s:Int)),(16,.int .i64 (mid:Int)),(0,aQw bx),(1,.int .i64 (a:Int)),(3,.int .i64 (b:Int))])
  (fun us=>aEz bx g k o us rest) ?_ ?_
 ·by_cases hr:s<m
  ·by_cases ao:m<e
   ·have hR:=bHe bx g k n o rest ts h s m e hr ao oM
    repeat(first|(refine st ?_;intros)|refine cq hL ?_)
    refine R.call (hct:=hR) (h:= ?_)
    rintro _ _ ⟨rfl,us,rfl,aa,hq⟩
    try dsimp only[AA,AB]
    repeat(first|(refine st ?_;intros)|refine cq hL ?_)
    exact Dn.meet us ⟨aa,Srt.rot b2 b3 oM (by rw[aa.len,ak]) hq (an us hq).1 b1 b4,hq⟩
   ·repeat(first|(refine st ?_;intros)|refine cq hL ?_)
    exact Dn.meet ts ⟨h,Srt.refl _ _ _ _,fun q=>(bBp ts (.inr oM) b2 b3 q).symm⟩
  ·repeat(first|(refine st ?_;intros)|refine cq hL ?_)
   exact Dn.meet ts ⟨h,Srt.refl _ _ _ _,fun q=>(bBp ts (.inl oM) b2 b3 q).symm⟩
 rintro us ⟨aa,bf,hq⟩
 obtain⟨-,⟨q1,q2,q3,q4⟩,hx,-⟩:=an us hq
 clear an
 refine G.cut (D':=[]) (X:=List T5) (fun vs=>aKf g k n vs∧Srt o us vs a mid∧Seg (ltO o) vs a mid) (fun _=>[(22,.int .i64 (e:Int)),(18,.int .i64 (s:Int)),(16,.int .i64 (mid:Int)),(0,aQw bx),(1,.int .i64 (a:Int)),(3,.int .i64 (b:Int))])
  (fun vs=>aEz bx g k o vs rest) ?_ ?_
 ·by_cases hr:a<s
  ·by_cases ao:s<mid
   ·have hR:=ih us aa a s mid oM hr ao oM q1 q2
    repeat(first|(refine st ?_;intros)|refine cq hL ?_)
    refine R.call (hct:=hR) (h:= ?_)
    rintro _ _ ⟨rfl,vs,rfl,ai,aj,ap⟩
    try dsimp only[AA,AB]
    repeat(first|(refine st ?_;intros)|refine cq hL ?_)
    exact Dn.meet vs ⟨ai,aj,ap⟩
   ·obtain rfl:s=mid:=by omega
    repeat(first|(refine st ?_;intros)|refine cq hL ?_)
    exact Dn.meet us ⟨aa,Srt.refl _ _ _ _,q1⟩
  ·obtain rfl:a=s:=by omega
   repeat(first|(refine st ?_;intros)|refine cq hL ?_)
   exact Dn.meet us ⟨aa,Srt.refl _ _ _ _,q2⟩
 rintro vs ⟨ai,aj,ap⟩
 have bg:=q3.out aj.2 (.inr (AG _))
 have bh:=q4.out aj.2 (.inr oM)
 have a2:=bDz hx aj.2
 have a3:=bf.trans (aj.wide (AG _) oM)
 by_cases hr:mid<e
 ·by_cases ao:e<b
  ·have hR:=ih vs ai mid e b oM hr ao oM bg bh
   repeat(first|(refine st ?_;intros)|refine cq hL ?_)
   refine R.call (hct:=hR) (h:= ?_)
   rintro _ _ ⟨rfl,ws,rfl,bi,a4,bu⟩
   try dsimp only[AA,AB]
   repeat(first|(refine st ?_;intros)|refine cq hL ?_)
   (refine Dn.postEnd (Hr:=aEz bx g k o ws rest) Tryz.results249 (hR:= ?_);exact⟨rfl,ws,rfl,bi,a3.trans (a4.wide oM (AG _)),aSu (ap.out a4.2 (.inl (AG _))) bu (aYu a2 a4.2)⟩)
  ·obtain rfl:e=b:=by omega
   repeat(first|(refine st ?_;intros)|refine cq hL ?_)
   (refine Dn.postEnd (Hr:=aEz bx g k o vs rest) Tryz.results249 (hR:= ?_);exact⟨rfl,vs,rfl,ai,a3,aSu ap bg a2⟩)
 ·obtain rfl:mid=e:=by omega
  repeat(first|(refine st ?_;intros)|refine cq hL ?_)
  (refine Dn.postEnd (Hr:=aEz bx g k o vs rest) Tryz.results249 (hR:= ?_);exact⟨rfl,vs,rfl,ai,a3,aSu ap bh a2⟩)
end
end Go.Proofs.YtaofijjjheiknaaGreat
namespace Go.Srt
variable {α:Type} {lt:α→α→Bool} [Inhabited α]
def Blk (lt:α→α→Bool) (l:List α) (bs n:Nat):Prop:=∀q,Seg lt l (q*bs) (min ((q+1)*bs) n)
def Mid (lt:α→α→Bool) (l:List α) (bs n q:Nat):Prop:=(∀p,p<q→Seg lt l (p*(2*bs)) ((p+1)*(2*bs)))∧∀p,2*q≤p→Seg lt l (p*bs) (min ((p+1)*bs) n)
theorem Seg.sub {l:List α} {a b c d:Nat} (h:Seg lt l a b) (h1:a≤c) (h2:d≤b):Seg lt l c d:=fun i j i1 i2 i3=>h i j oM i2 oM
theorem Seg.none {l:List α} {a b:Nat} (h:b≤a):Seg lt l a b:=fun i j i1 i2 i3=>by omega
theorem mul2 (q bs:Nat):(2*q)*bs=q*(2*bs):=by rw[Nat.mul_comm 2 q,Nat.mul_assoc]
theorem bHf {l:List α} {bs n:Nat} (h:Blk lt l bs n):Mid lt l bs n 0:=⟨fun p hp=>by omega,fun p _=>h p⟩
theorem mid_get {l:List α} {bs n q a:Nat} (h:Mid lt l bs n q) (ha:a=q*(2*bs)) (hn:a+bs≤n):Seg lt l a (a+bs)∧Seg lt l (a+bs) (min (a+2*bs) n):=by
 have h1:=h.2 (2*q) (Nat.le_refl _)
 have h2:=h.2 (2*q+1) oM
 have e:=mul2 q bs
 rw[Nat.succ_mul (2*q),e,←ha] at h1
 rw[Nat.succ_mul (2*q+1),Nat.succ_mul (2*q),e,←ha] at h2
 refine⟨h1.sub (Nat.le_refl _) oM,h2.sub (Nat.le_refl _) oM⟩
theorem bLy {l l':List α} {bs n q a b:Nat} (h:Mid lt l bs n q) (ha:a=q*(2*bs)) (hb:b=a+2*bs) (hi:Ins l l' a b) (hs:Seg lt l' a b):Mid lt l' bs n (q+1):=by
 refine⟨fun p hp=> ?_,fun p hp=> ?_⟩
 ·by_cases aa:p=q
  ·subst aa
   rw[Nat.succ_mul p,←ha,←hb];exact hs
  ·refine(h.1 p oM).out hi (.inl ?_)
   rw[ha];exact Nat.mul_le_mul_right _ oM
 ·refine(h.2 p oM).out hi (.inr ?_)
  have:=Nat.mul_le_mul_right bs hp
  rw[show 2*(q+1)=2*q+1+1 by omega,Nat.succ_mul (2*q+1),Nat.succ_mul (2*q),mul2,←ha] at this
  omega
theorem bHg {l l':List α} {bs n q a:Nat} (h:Mid lt l bs n q) (ha:a=q*(2*bs)) (hn:n<a+2*bs) (hi:Ins l l' a n) (hs:Seg lt l' a n):Blk lt l' (2*bs) n:=by
 intro p
 by_cases aa:p<q
 ·refine(h.1 p aa).out hi (.inl ?_)|>.sub (Nat.le_refl _) oM
  rw[ha];exact Nat.mul_le_mul_right _ oM
 ·by_cases hp:p=q
  ·subst hp
   rw[←ha];exact hs.sub (Nat.le_refl _) oM
  ·refine Seg.none ?_
   have:=Nat.mul_le_mul_right (2*bs) (show q+1≤p by omega)
   rw[Nat.succ_mul q,←ha] at this
   omega
theorem bLz {l:List α} {bs n q a:Nat} (h:Mid lt l bs n q) (ha:a=q*(2*bs)) (hn:n≤a+bs) (hb:0<bs):Blk lt l (2*bs) n:=by
 refine bHg h ha oM (Ins.refl _ _ _) ?_
 have h1:=h.2 (2*q) (Nat.le_refl _)
 have e:=mul2 q bs
 rw[Nat.succ_mul (2*q),e,←ha] at h1
 exact h1.sub (Nat.le_refl _) oM
theorem bQl {l:List α} {bs n:Nat} (h:Blk lt l bs n) (hb:n≤bs):Seg lt l 0 n:=by
 have:=h 0
 exact this.sub oM oM
theorem bHh {l l':List α} {n c a:Nat} (h:∀p,p<c→Seg lt l (p*20) ((p+1)*20)) (ha:a=c*20) (hn:n<a+20) (hi:Ins l l' a n) (hs:Seg lt l' a n):Blk lt l' 20 n:=by
 intro p
 by_cases aa:p<c
 ·exact(h p aa).out hi (.inl oM)|>.sub (Nat.le_refl _) oM
 ·by_cases hp:p=c
  ·subst hp
   rw[←ha];exact hs.sub (Nat.le_refl _) oM
  ·exact Seg.none oM
end Go.Srt
namespace Go.Proofs.YtaofijjjheiknaaGreat
open Go.SL Go.Spc Go.Tup Go.Srt
section
variable (bx:Nat) (g:Gr) (k n:Nat) (o:T5) (rest:List Int)
theorem bHi (ts:List T5) (h:aKf g k n ts):
  Ct AC 243 [aQw bx,.int .i64 (n:Int)] (aEz bx g k o ts rest) fun v H'=>
   v= .tuple #[]∧∃ts',H'=aEz bx g k o ts' rest∧aKf g k n ts'∧Srt o ts ts' 0 n∧Seg (ltO o) ts' 0 n:=by
 have al:=h.n_le
 refine Ct.go Tryz.func243 Tryz.ntmps243 fun w0=> ?_
 repeat(refine st ?_;intros)
 refine G.loop (X:=Nat×List T5) (fun x=>x.1*20≤n∧aKf g k n x.2∧Srt o ts x.2 0 n∧∀p,p<x.1→Seg (ltO o) x.2 (p*20) ((p+1)*20))
  (fun x=>[(6,.int .i64 ((x.1*20+20:Nat):Int)),(5,.int .i64 ((x.1*20:Nat):Int)),(4,.int .i64 20),(0,aQw bx),(1,.int .i64 (n:Int))])
  (fun x=>aEz bx g k o x.2 rest) (fun x=>n+20-x.1*20) (0,ts) ⟨oD,h,Srt.refl _ _ _ _,fun p hp=>by dsimp only at hp;omega⟩ (body:= ?_)
 rintro⟨c,us⟩ ⟨hc,aa,hs,hq⟩
 dsimp only at hc aa hs hq⊢
 generalize ha:c*20=a at hc⊢
 by_cases hb:a+20≤n
 ·have hI:=aRp bx g k n o rest us aa a (a+20) oM hb
  have e1:AJ .i64 (((a+20:Nat):Int)+20)=(((c+1)*20+20:Nat):Int):=by rw[aAd oM];omega
  repeat(refine st ?_;intros)
  refine R.call (hct:=hI) (h:= ?_)
  rintro _ _ ⟨rfl,vs,rfl,ab,ac,ad⟩
  try dsimp only[AA,AB]
  repeat(refine st ?_;intros)
  have e2:a+20=(c+1)*20:=oM
  refine Dn.round (c+1,vs) ⟨oD,ab,hs.trans (ac.wide oM hb),fun p hp=> ?_⟩ oD ?_ oA1
  ·by_cases aj:p=c
   ·subst aj;rw[show(p+1)*20=a+20 by omega,ha];exact ad
   ·exact(hq p (by dsimp only at hp;omega)).out ac.2 (.inl (by dsimp only at hp;omega))
  ·rw[e2];exact oA3
 have hI:=aRp bx g k n o rest us aa a n hc (AG _)
 repeat(refine st ?_;intros)
 refine R.call (hct:=hI) (h:= ?_)
 rintro _ _ ⟨rfl,vs,rfl,ab,ac,ad⟩
 try dsimp only[AA,AB]
 have hB:=bHh hq ha.symm oM ac.2 ad
 have ae:=hs.trans (ac.wide (AS _) (AG _))
 clear ac ad hs aa hq hI
 repeat(refine st ?_;intros)
 refine G.loop (X:=Nat×List T5) (fun x=>0<x.1∧x.1≤2000000020∧aKf g k n x.2∧Srt o ts x.2 0 n∧Blk (ltO o) x.2 x.1 n)
  (fun x=>[(4,.int .i64 (x.1:Int)),(0,aQw bx),(1,.int .i64 (n:Int))])
  (fun x=>aEz bx g k o x.2 rest) (fun x=>n-x.1) (20,vs) ⟨oD,oD,ab,ae,hB⟩ (body:= ?_)
 clear hB ae ab vs us
 rintro⟨bs,us⟩ ⟨ag,ak,aa,hs,hB⟩
 dsimp only at ag ak aa hs hB⊢
 by_cases am:bs<n
 ·have e1:AJ .i64 (2*(bs:Int))=((2*bs:Nat):Int):=by rw[aAd oM];omega
  have an:AJ .i64 ((bs:Int)*2)=((2*bs:Nat):Int):=by rw[aAd oM];omega
  repeat(refine st ?_;intros)
  refine G.loop (X:=Nat×List T5) (fun x=>x.1*(2*bs)≤n∧aKf g k n x.2∧Srt o ts x.2 0 n∧Mid (ltO o) x.2 bs n x.1)
   (fun x=>[(6,.int .i64 ((x.1*(2*bs)+2*bs:Nat):Int)),(5,.int .i64 ((x.1*(2*bs):Nat):Int)),(4,.int .i64 (bs:Int)),(0,aQw bx),(1,.int .i64 (n:Int))])
   (fun x=>aEz bx g k o x.2 rest) (fun x=>n+2*bs-x.1*(2*bs)) (0,us) ⟨by simp,aa,hs,bHf hB⟩ (by simp only[Nat.zero_mul,Nat.zero_add];exact oA3) oA1 ?_
  clear aa hs hB
  rintro⟨q,us⟩ ⟨ah,aa,hs,hM⟩
  dsimp only at ah aa hs hM⊢
  have ai:(q+1)*(2*bs)=q*(2*bs)+2*bs:=BG _ _
  generalize ha:q*(2*bs)=a at ah ai⊢
  have e2:AJ .i64 ((a:Int)+(bs:Int))=((a+bs:Nat):Int):=by rw[←DA];exact aAd oM
  by_cases hb:a+2*bs≤n
  ·obtain⟨g1,g2⟩:=mid_get hM ha.symm oM
   rw[Nat.min_eq_left hb] at g2
   have hI:=aPf bx g k n o rest (2*bs) us aa a (a+bs) (a+2*bs) oM oM oM hb g1 g2
   have e3:AJ .i64 (((a+2*bs:Nat):Int)+((2*bs:Nat):Int))=(((q+1)*(2*bs)+2*bs:Nat):Int):=by rw[aAd oM];omega
   repeat(refine st ?_;intros)
   refine R.call (hct:=hI) (h:= ?_)
   rintro _ _ ⟨rfl,vs,rfl,ab,ac,ad⟩
   try dsimp only[AA,AB]
   repeat(refine st ?_;intros)
   refine Dn.round (q+1,vs) ⟨oD,ab,hs.trans (ac.wide oM hb),bLy hM ha.symm rfl ac.2 ad⟩ oD ?_ oA1
   rw[←ai];exact oA3
  ·by_cases hm:a+bs<n
   ·obtain⟨g1,g2⟩:=mid_get hM ha.symm oM
    have hI:=aPf bx g k n o rest n us aa a (a+bs) n oM oM oM (AG _) g1 (g2.sub (AG _) oM)
    repeat(refine st ?_;intros)
    refine R.call (hct:=hI) (h:= ?_)
    rintro _ _ ⟨rfl,vs,rfl,ab,ac,ad⟩
    try dsimp only[AA,AB]
    repeat(refine st ?_;intros)
    exact Dn.round (2*bs,vs) ⟨oD,oD,ab,hs.trans (ac.wide oM (AG _)),bHg hM ha.symm oM ac.2 ad⟩ oD
   ·repeat(refine st ?_;intros)
    exact Dn.round (2*bs,us) ⟨oD,oD,aa,hs,bLz hM ha.symm oM ag⟩ oD
 ·repeat(refine st ?_;intros)
  (refine Dn.postEnd (Hr:=aEz bx g k o us rest) Tryz.results243 (hR:= ?_);exact⟨rfl,us,rfl,aa,hs,bQl hB oM⟩)
theorem bHj (ts:List T5) (h:aKf g k n ts):
  Ct AC 231 [aQw bx] (aEz bx g k o ts rest) fun v H'=>
   v= .tuple #[]∧∃ts',H'=aEz bx g k o ts' rest∧aKf g k n ts'∧Go.Srt.Sp (ltO o) false ts ts'∧Sd (ltO o) false ts':=by
 have hN:=bQk bx g k o ts rest
 rw[h.len] at hN
 have hS:=bHi bx g k n o rest ts h
 refine Ct.go Tryz.func231 Tryz.ntmps231 fun w0=> ?_
 repeat(first|(refine st ?_;intros)|refine cq hN ?_)
 refine R.call (hct:=hS) (h:= ?_)
 rintro _ _ ⟨rfl,vs,rfl,aa,ab,ac⟩
 try dsimp only[AA,AB]
 repeat(first|(refine st ?_;intros)|refine cq hN ?_)
 (refine Dn.postEnd (Hr:=aEz bx g k o vs rest) Tryz.results231 (hR:= ?_);exact⟨rfl,vs,rfl,aa,ab.1,seg_sd (by rw[aa.len];exact ac)⟩)
end
def aLq (o:T5) (once:Bool) (ps:List T5) (t:T5):List T5:=
 match once,ps.getLast? with
 |true,some x=>if aJs o x t=0 then ps else ps++[t]
 |_,_=>ps++[t]
def bHk (ps:List T5) (last:T5) (some:Bool):Prop:=match ps.getLast? with
 |none=>some=false
 | .some x=>some=true∧last=x
theorem bHk.put (ps:List T5) (t:T5):bHk (ps++[t]) t true:=by simp[bHk]
theorem aNu (o:T5) (once:Bool) (ps:List T5) (t:T5):ps.length≤(aLq o once ps t).length∧(aLq o once ps t).length≤ps.length+1:=by
 unfold aLq
 split
 ·split<;>simp
 ·simp
def aHt (bw:Nat) (o:T5) (once:Bool) (p:Option Addr) (n cap:Nat) (last:T5) (some:Bool):List Value:=
 [pv bw,.int .i64 o.c0,.int .i64 o.c1,.int .i64 o.c2,.int .i64 o.c3,.int .i64 o.c4,.bool once,.slice p n cap,
  .int .i64 last.c0,.int .i64 last.c1,.int .i64 last.c2,.int .i64 last.c3,.int .i64 last.c4,.bool some]
def aQp (bz bw:Nat) (o:T5) (once:Bool) (p:Option Addr) (n cap:Nat) (last:T5) (some:Bool):aAc:=[(bz,row (aHt bw o once p n cap last some) 200)]
theorem bOp (bz bw bd ba bs:Nat) (W:Wk) (cd ca cs:aAc) (h:Wc bd ba bs W cd ca cs) (bx first nb k bound:Nat) (g:Gr) (ps:List T5) (cx cb:aAc) (hw:aHy bw bx W first nb k bound g ps cx cb) (Gs:List Gr) (hg:W.α.gs.Perm (g::Gs))
  (Lv:List Ext) (hl:aDv first nb Lv W.live) (ah:ps.length<bound) (t:T5) (ht:okT k t) (ai:W.δ.acts≤1000000000000)
  (o:T5) (once:Bool) (p:Option Addr) (n cap:Nat) (last:T5) (some:Bool) (aa:bHk ps last some):
  Ct AC 232 [pv bz,pv bx,tv t] [aQp bz bw o once p n cap last some,aAi bw bd ba bs,cd,ca,cs,cx,cb] fun v H'=>
   ∃cd' ca' cs' W' cx' cb' last' some',H'=[aQp bz bw o once p n cap last' some',aAi bw bd ba bs,cd',ca',cs',cx',cb']∧Wc bd ba bs W' cd' ca' cs'∧
    Ev W W' ((aLq o once ps t).length/aAf W.δ.size k-ps.length/aAf W.δ.size k) 0∧aBv Lv W W'∧
    ((v= .int .i64 0∧W'.α=W.α∧W'.σ=W.σ∧W'.live=W.live∧aHy bw bx W' first nb k bound g (aLq o once ps t) cx' cb'∧bHk (aLq o once ps t) last' some')∨
     (v= .int .i64 6∧W.δ.fault=0∧W'.δ=W.δ.failed∧W'.α.gs.Perm Gs∧W'.live.Perm Lv∧aEg bx cx')):=by
 have hP:=bLr bw bd ba bs W cd ca cs h bx first nb k bound g ps cx cb hw Gs hg Lv hl ah t ht ai
 have hC:=aMb last.c0 last.c1 last.c2 last.c3 last.c4 t.c0 t.c1 t.c2 t.c3 t.c4 o.c0 o.c1 o.c2 o.c3 o.c4
 have aj:aJs ⟨o.c0,o.c1,o.c2,o.c3,o.c4⟩ ⟨last.c0,last.c1,last.c2,last.c3,last.c4⟩ ⟨t.c0,t.c1,t.c2,t.c3,t.c4⟩=aJs o last t:=rfl
 rw[aj] at hC
 generalize ag:aJs o last t=cm at hC
 unfold aQp aHt
 by_cases ac:once=true∧some=true∧cm=0
 ·obtain⟨rfl,rfl,rfl⟩:=ac
  have ad:aLq o true ps t=ps:=by
   unfold aLq;unfold bHk at aa
   cases hgl:ps.getLast? with
   |none=>rw[hgl] at aa;simp at aa
   |some x=>
    rw[hgl] at aa
    obtain⟨_,rfl⟩:=aa
    simp[ag]
  rw[ad]
  refine Ct.go Tryz.func232 Tryz.ntmps232 fun w0=> ?_
  repeat(first|(refine st ?_;intros)|refine G.draw (id:=1) [(20,.quiet)] (h:= ?_)|refine cq hC ?_)
  (refine Dn.post (Hr:=[[(bz,row [pv bw,.int .i64 o.c0,.int .i64 o.c1,.int .i64 o.c2,.int .i64 o.c3,.int .i64 o.c4,.bool true,.slice p n cap,.int .i64 last.c0,.int .i64 last.c1,.int .i64 last.c2,.int .i64 last.c3,.int .i64 last.c4,.bool true] 200)],aAi bw bd ba bs,cd,ca,cs,cx,cb]) Tryz.results232 (hR:= ?_);exact⟨cd,ca,cs,W,cx,cb,last,true,rfl,h,(Ev.refl W).weak (AS _) (AG _),aBv.refl _ _,.inl ⟨rfl,rfl,rfl,rfl,hw,aa⟩⟩)
 have ad:aLq o once ps t=ps++[t]:=by
  unfold aLq;unfold bHk at aa
  cases once with
  |false=>rfl
  |true=>
   cases hgl:ps.getLast? with
   |none=>rfl
   |some x=>
    rw[hgl] at aa
    obtain⟨rfl,rfl⟩:=aa
    have:¬cm=0:=fun e=>ac ⟨rfl,rfl,e⟩
    simp[ag,this]
 rw[ad]
 have ae:=bHk.put ps t
 rw[AF,List.length_singleton]
 have ak:tv t= .agg #[.int .i64 t.c0,.int .i64 t.c1,.int .i64 t.c2,.int .i64 t.c3,.int .i64 t.c4]:=rfl
 rw[ak] at hP⊢
 cases ho:once with
 |false=>
  refine Ct.go Tryz.func232 Tryz.ntmps232 fun w0=> ?_
  repeat(first|(refine st ?_;intros)|refine G.draw (id:=1) [(20,.quiet)] (h:= ?_)|refine cq hC ?_)
  refine R.call (hct:=hP) (h:= ?_)
  rintro _ _ ⟨cd',ca',cs',W',cx',cb',rfl,hW,hE,hK,ab⟩
  try dsimp only[AA,AB]
  repeat(first|(refine st ?_;intros)|refine G.draw (id:=1) [(20,.quiet)] (h:= ?_)|refine cq hC ?_)
  (refine Dn.post (Hr:=[[(bz,row [pv bw,.int .i64 o.c0,.int .i64 o.c1,.int .i64 o.c2,.int .i64 o.c3,.int .i64 o.c4,.bool false,.slice p n cap,.int .i64 t.c0,.int .i64 t.c1,.int .i64 t.c2,.int .i64 t.c3,.int .i64 t.c4,.bool true] 200)],aAi bw bd ba bs,cd',ca',cs',cx',cb']) Tryz.results232 (hR:= ?_);exact⟨cd',ca',cs',W',cx',cb',t,true,rfl,hW,hE,hK,ab.imp (fun ⟨a1,a2,a3,a4,a5⟩=>⟨a1,a2,a3,a4,a5,ae⟩) id⟩)
 |true=>
  cases hs:some with
  |false=>
   refine Ct.go Tryz.func232 Tryz.ntmps232 fun w0=> ?_
   repeat(first|(refine st ?_;intros)|refine G.draw (id:=1) [(20,.quiet)] (h:= ?_)|refine cq hC ?_)
   refine R.call (hct:=hP) (h:= ?_)
   rintro _ _ ⟨cd',ca',cs',W',cx',cb',rfl,hW,hE,hK,ab⟩
   try dsimp only[AA,AB]
   repeat(first|(refine st ?_;intros)|refine G.draw (id:=1) [(20,.quiet)] (h:= ?_)|refine cq hC ?_)
   (refine Dn.post (Hr:=[[(bz,row [pv bw,.int .i64 o.c0,.int .i64 o.c1,.int .i64 o.c2,.int .i64 o.c3,.int .i64 o.c4,.bool true,.slice p n cap,.int .i64 t.c0,.int .i64 t.c1,.int .i64 t.c2,.int .i64 t.c3,.int .i64 t.c4,.bool true] 200)],aAi bw bd ba bs,cd',ca',cs',cx',cb']) Tryz.results232 (hR:= ?_);exact⟨cd',ca',cs',W',cx',cb',t,true,rfl,hW,hE,hK,ab.imp (fun ⟨a1,a2,a3,a4,a5⟩=>⟨a1,a2,a3,a4,a5,ae⟩) id⟩)
  |true=>
   have al:¬cm=0:=fun e=>ac ⟨ho,hs,e⟩
   refine Ct.go Tryz.func232 Tryz.ntmps232 fun w0=> ?_
   repeat(first|(refine st ?_;intros)|refine G.draw (id:=1) [(20,.quiet)] (h:= ?_)|refine cq hC ?_)
   refine R.call (hct:=hP) (h:= ?_)
   rintro _ _ ⟨cd',ca',cs',W',cx',cb',rfl,hW,hE,hK,ab⟩
   try dsimp only[AA,AB]
   repeat(first|(refine st ?_;intros)|refine G.draw (id:=1) [(20,.quiet)] (h:= ?_)|refine cq hC ?_)
   (refine Dn.post (Hr:=[[(bz,row [pv bw,.int .i64 o.c0,.int .i64 o.c1,.int .i64 o.c2,.int .i64 o.c3,.int .i64 o.c4,.bool true,.slice p n cap,.int .i64 t.c0,.int .i64 t.c1,.int .i64 t.c2,.int .i64 t.c3,.int .i64 t.c4,.bool true] 200)],aAi bw bd ba bs,cd',ca',cs',cx',cb']) Tryz.results232 (hR:= ?_);exact⟨cd',ca',cs',W',cx',cb',t,true,rfl,hW,hE,hK,ab.imp (fun ⟨a1,a2,a3,a4,a5⟩=>⟨a1,a2,a3,a4,a5,ae⟩) id⟩)
theorem bHl (o x t:T5):eqv (ltO o) x t=true↔aJs o x t=0:=by
 rw[aCv]
 have:=aEd o x t
 simp only[ltO,decide_eq_false_iff_not]
 omega
structure Em (o:T5) (once:Bool) (l ps rest:List T5):Prop where
 sd:Sd (ltO o) once ps
 sp:Go.Srt.Sp (ltO o) once l (ps++rest)
 le:∀x∈ps,∀y∈rest,ltO o y x=false
theorem Em.start {o:T5} {once:Bool} {l rest:List T5} (h:Go.Srt.Sp (ltO o) once l rest):Em o once l [] rest:=⟨CI,h,fun x hx=>by simp at hx⟩
theorem Em.turn {o:T5} {once:Bool} {l ps rest aa:List T5} (h:Em o once l ps rest) (hs:Go.Srt.Sp (ltO o) once rest aa) (hm:∀y∈aa,y∈rest):Em o once l ps aa:=
 ⟨h.sd,h.sp.trans (Go.Srt.Sp.app (Go.Srt.Sp.refl _ _) hs),fun x hx y hy=>h.le x hx y (hm y hy)⟩
theorem Em.fin {o:T5} {once:Bool} {l ps:List T5} (h:Em o once l ps []):Sd (ltO o) once ps∧Go.Srt.Sp (ltO o) once l ps:=⟨h.sd,by have:=h.sp;rwa[AQ] at this⟩
theorem bQm {o:T5} {ps rest:List T5} {z t:T5} (hz:z∈ps) (he:eqv (ltO o) z t=true):Go.Srt.Sp (ltO o) true (ps++t::rest) (ps++rest):=fun c=>by
 rw[CC,CC,List.filter_cons]
 cases hct:eqv (ltO o) c t with
 |false=>simp
 |true=>
  have h1:eqv (ltO o) c z=true:=aKx (aBy o) hct (aNs he)
  have h2:z∈ps.filter (eqv (ltO o) c):=List.mem_filter.2 ⟨hz,h1⟩
  simp only[aGz,if_true]
  cases hf:ps.filter (eqv (ltO o) c) with
  |nil=>rw[hf] at h2;simp at h2
  |cons a b=>simp
theorem Em.step {o:T5} {once:Bool} {l ps rest:List T5} {t:T5} (h:Em o once l ps (t::rest)) (ac:∀y∈rest,ltO o y t=false):Em o once l (aLq o once ps t) rest:=by
 have ah:=aBy o
 have aa:(once=true→∀z,ps.getLast? =some z→aJs o z t≠0)→Em o once l (ps++[t]) rest:=by
  intro hz
  refine⟨?_,by have:=h.sp;simpa using this,?_⟩
  ·unfold Sd
   rw[BS]
   refine⟨h.sd,List.pairwise_singleton _ _,?_⟩
   intro x hx y hy
   simp only[AT] at hy
   subst hy
   have ai:=h.le x hx y AH
   cases once with
   |false=>simpa using ai
   |true=>
    rw[if_pos rfl]
    obtain⟨qs,z,rfl⟩:∃qs z,ps=qs++[z]:=by
     rcases List.eq_nil_or_concat ps with rfl|⟨qs,z,rfl⟩
     ·simp at hx
     ·exact⟨qs,z,by simp⟩
    have aj:=hz rfl z oA15
    have ad:=h.le z oA15 y AH
    have ak:ltO o z y=true:=by
     cases hc:ltO o z y with
     |true=>rfl
     |false=>exact absurd ((bHl o z y).1 (aCv.2 ⟨hc,ad⟩)) aj
    rcases AO.1 hx with hx|hx
    ·have ab:=h.sd
     unfold Sd at ab
     rw[BS] at ab
     have ae:=ab.2.2 x hx z oA15
     rw[if_pos rfl] at ae
     cases hc:ltO o x y with
     |true=>rfl
     |false=>
      have:=ah.ntrans _ _ _ hc ad
      rw[ae] at this;cases this
    ·simp only[AT] at hx
     subst hx;exact ak
  ·intro x hx y hy
   rcases AO.1 hx with hx|hx
   ·exact h.le x hx y (AI _ hy)
   ·simp only[AT] at hx
    subst hx;exact ac y hy
 unfold aLq
 cases once with
 |false=>exact aa (fun e=>by cases e)
 |true=>
  cases hgl:ps.getLast? with
  |none=>exact aa (fun _ z hz=>by rw[hgl] at hz;cases hz)
  |some z=>
   dsimp only
   split
   ·rename_i hc
    exact⟨h.sd,h.sp.trans (bQm (List.mem_of_getLast? hgl) ((bHl o z t).2 hc)),fun x hx y hy=>h.le x hx y (AI _ hy)⟩
   ·rename_i hc
    exact aa (fun _ z' ag=>by rw[hgl] at ag;cases ag;exact hc)
def aGr (o:T5) (once:Bool) (l:List T5):List T5:=l.foldl (aLq o once) []
theorem bEa {o:T5} {once:Bool} {l:List T5} {i:Nat} (h:i<l.length):aGr o once (l.take (i+1))=aLq o once (aGr o once (l.take i)) l[i]:=by
 unfold aGr
 rw[BP,List.foldl_append];simp[h]
theorem aWf (o:T5) (once:Bool):∀(l:List T5),(aGr o once l).length≤l.length:=by
 intro l
 have:∀(l ps:List T5),(l.foldl (aLq o once) ps).length≤ps.length+l.length:=by
  intro l
  induction l with
  |nil=>intro ps;simp
  |cons t l ih=>
   intro ps
   have h1:=ih (aLq o once ps t)
   have h2:=(aNu o once ps t).2
   simp only[List.foldl_cons,List.length_cons];omega
 have h:=this l []
 simpa[aGr] using h
theorem Em.all {o:T5} {once:Bool} {l:List T5}:∀{m ps:List T5},Em o once l ps m→Sd (ltO o) false m→Em o once l (m.foldl (aLq o once) ps) []
 |[],_,h,_=>h
 |t::m,ps,h,hs=>by
  unfold Sd at hs
  rw[List.foldl_cons]
  refine Em.all (ps:=aLq o once ps t) (m:=m) (h.step fun y hy=> ?_) (List.Pairwise.of_cons hs)
  have:=List.rel_of_pairwise_cons hs hy
  simpa using this
theorem bHm {o:T5} {once:Bool} {l m:List T5} (h:Go.Srt.Sp (ltO o) false l m) (hs:Sd (ltO o) false m):Sd (ltO o) once (aGr o once m)∧Go.Srt.Sp (ltO o) once l (aGr o once m):=
 (Em.all (Em.start h.once_of) hs).fin
structure FillX where
 i:Nat
 cd:aAc
 c1:aAc
 cx:aAc
 cb:aAc
 W:Wk
 ws:List Int
theorem bMa {i c k n:Nat} (hk:1≤k) (hc:c=n/k):(i+1)*k≤n↔i<c:=by
 subst hc
 rw[←CN oM]
 exact⟨fun h=>h,fun h=>h⟩
theorem bQn (bw bd ba bs:Nat) (W:Wk) (cd ca cs:aAc) (h:Wc bd ba bs W cd ca cs) (bx:Nat) (f:Fl) (fts:List T5) (Lv:List Ext) (ag:aAq W.δ.disk W.δ.size Lv f fts) (a4:∀e∈Lv,e∈W.live) (g g2:Gr) (Gs:List Gr) (hg:W.α.gs.Perm (g::Gs))
  (b2:g2∈Gs) (pos:Nat) (a3:pos≤f.count) (cx cb:aAc) (hr:aGt bw bx W f fts g pos cx cb) (da:W.δ.acts≤100000000000) (aa n0:Nat) (o:T5) (ws:List Int) (b3:ws.length=g2.n) (c9:g2.n≤1000000000):
  Ct AC 215 [pv bx,pv aa] [aAi bw bd ba bs,cd,ca,cs,cx,cb,[(aa,row (aCa g2.bb f.width n0 o) 218)],[(g2.br,row (aAg ws) 174)]] fun v H'=>
   ∃cd' ca' W' cx' cb' ts' ws' m,H'=[aAi bw bd ba bs,cd',ca',cs,cx',cb',[(aa,row (aCa g2.bb f.width m o) 218)],[(g2.br,row (aAg ws') 174)]]∧Wc bd ba bs W' cd' ca' cs∧
    Ev W W' (aAb W.δ.size f.width (pos+m)-aAb W.δ.size f.width pos) 0∧W'.δ.disk=W.δ.disk∧W'.σ=W.σ∧W'.live=W.live∧ws'.length=g2.n∧
    ts'=(fts.drop pos).take m∧ws'.take (m*f.width)=aBr f.width ts'∧
    ((v= .tuple #[.int .i64 (m:Int),.int .i64 0]∧m=min (g2.n/f.width) (f.count-pos)∧W'.α=W.α∧aGt bw bx W' f fts g (pos+m) cx' cb')∨
     (v= .tuple #[.int .i64 (m:Int),.int .i64 6]∧W.δ.fault≠-1∧W'.α.gs.Perm Gs∧aDj bx cx'∧pos+m≤f.count)):=by
 obtain⟨⟨b4,db⟩,dc,dd⟩:=h.dev.num
 have a5:=ag.w1
 have ay:=ag.w2
 have cv:=ag.cnt
 have de:=ag.len
 have hp:=aAl b4 a5 ay
 have a6:g2∈W.α.gs:=hg.mem_iff.2 (AI _ b2)
 obtain⟨c1,a7⟩:=h.ar.open_ a6
 have h':Wc bd ba bs W cd (c1++[g2.obj]) cs:=⟨h.dev,h.ar.perm a7.symm,h.sp,h.nn,h.live⟩
 obtain⟨c,hc⟩:∃c,c=g2.n/f.width:=⟨_,rfl⟩
 have df:c*f.width≤g2.n:=by rw[hc];exact DN _ _
 have dg:c≤g2.n:=by rw[hc];exact CW _ _
 rw[←hc]
 have a8:=fun i=>bMa (i:=i) a5 hc
 refine Ct.permH (H2:=[aAi bw bd ba bs,cd,c1,[g2.obj],cs,cx,cb,[(aa,row (aCa g2.bb f.width n0 o) 218)],[(g2.br,row (aAg ws) 174)]]) ?_ ?_
 ·unfold aCa Gr.obj
  refine Ct.go Tryz.func215 Tryz.ntmps215 fun w0=> ?_
  repeat(refine sv ?_;intros)
  refine G.loop (X:=FillX) (fun x=>x.i≤c∧pos+x.i≤f.count∧Wc bd ba bs x.W x.cd (x.c1++[g2.obj]) cs∧Ev W x.W (aAb W.δ.size f.width (pos+x.i)-aAb W.δ.size f.width pos) 0∧x.W.δ.disk=W.δ.disk∧x.W.σ=W.σ∧x.W.live=W.live∧x.W.α=W.α∧
    aGt bw bx x.W f fts g (pos+x.i) x.cx x.cb∧x.ws.length=g2.n∧x.ws.take (x.i*f.width)=aBr f.width ((fts.drop pos).take x.i))
   (fun _=>[(0,pv bx),(1,pv aa)])
   (fun x=>[aAi bw bd ba bs,x.cd,x.c1,[(g2.bb,row [.slice (some ⟨g2.br,0,none⟩) g2.n g2.n] 177)],cs,x.cx,x.cb,[(aa,row [pv g2.bb,.int .i64 (f.width:Int),.int .i64 (x.i:Int),.int .i64 o.c0,.int .i64 o.c1,.int .i64 o.c2,.int .i64 o.c3,.int .i64 o.c4] 218)],[(g2.br,row (aAg x.ws) 174)]])
   (fun x=>c-x.i) ⟨0,cd,c1,cx,cb,W,ws⟩ ⟨AS _,a3,h',by simpa using Ev.refl W,rfl,rfl,rfl,rfl,hr,b3,by simp⟩ (body:= ?_)
  rintro⟨i,am,c2,ah,ai,W2,ab⟩ ⟨a9,bc,au,ac,aj,an,ak,al,ao,ad,ap⟩
  dsimp only at a9 bc au ac aj an ak al ao ad ap⊢
  have b5:=ac.acts
  have be:=ac.size
  have bf:W2.δ.fault=0→W.δ.fault≠-1:=fun e0 e1=>by have:=ac.fault e1;omega
  have dh:aAb W.δ.size f.width (pos+i)≤pos+i:=by
   unfold aAb
   rw[DX oM]
   have:=DW (pos+i) (show 0<aAf W.δ.size f.width by omega)
   omega
  have di:(i+1)*f.width≤1000000005:=by
   have h1:(i+1)*f.width=i*f.width+f.width:=BG _ _
   have h2:i*f.width≤c*f.width:=A7 _ a9
   omega
  have e1:AJ .i64 ((i:Int)+1)=((i+1:Nat):Int):=by rw[aAd oM];rfl
  have e2:AJ .i64 (((i+1:Nat):Int)*(f.width:Int))=(((i+1)*f.width:Nat):Int):=by rw[←Int.natCast_mul];exact aAd oM
  have bg:=a8 i
  generalize bh:(i+1)*f.width=m1 at*
  by_cases az:i<c
  ·have b7:=bg.2 az
   repeat(refine sv ?_;intros)
   apply R1.join (c1:=c2) (c2:=[(g2.bb,row [.slice (some ⟨g2.br,0,none⟩) g2.n g2.n] 177)])
   ·(repeat(first|exact aAn.here|apply aAn.there))
   ·(repeat(first|exact aAn.here|apply aAn.there))
   by_cases dj:pos+i<f.count
   ·have a0:pos+i<fts.length:=oM
    have bi:=aJt bw bd ba bs W2 am _ cs au bx f fts Lv (by rw[aj,be];exact ag) (by rw[ak];exact a4) g Gs (by rw[al];exact hg) (pos+i) ah ai ao fts[pos+i] (AE a0) oM
    have b8:tv fts[pos+i]= .agg (aAk fts[pos+i]).toArray:=rfl
    rw[b8] at bi
    have b9:fts[pos+i]∈fts:=B5 a0
    have cw:=ag.fit _ b9
    have cz:(aAk fts[pos+i]).length=5:=rfl
    have c5:(aAk fts[pos+i]).all Value.oneCell'=true:=rfl
    have cg:aFm [.int .i64 0,.int .i64 0,.int .i64 0,.int .i64 0,.int .i64 0] 0 (aAk fts[pos+i])=aAk fts[pos+i]:=rfl
    have a1:(fts.drop pos).take (i+1)=(fts.drop pos).take i++[fts[pos+i]]:=by
     rw[BP];simp[a0]
    have bk:=aMd fts[pos+i]
    have ci:=bBm fts[pos+i] f.width
    have aq:=aCp fts[pos+i] ay
    generalize dk:aAk fts[pos+i]=tc at*
    generalize fts[pos+i]=t at*
    refine R.call (hct:=bi) (h:= ?_)
    rintro _ _ ⟨av,bo,W3,aw,ax,rfl,ae,bp,bq,bu,bv,⟨rfl,e6,e9⟩|⟨rfl,e6,e7,e8,e9⟩⟩
    try dsimp only[AA,AB]
    ·obtain⟨c3,a2⟩:=ae.ar.open_ (g:=g2) (by rw[e6,al];exact a6)
     unfold Gr.obj at a2
     apply R.open a2
     ·(repeat(first|exact aAn.here|apply aAn.there))
     obtain⟨B,hB⟩:∃B:Nat→List Int,∀j,B j=aOz ab (i*f.width) ((tw f.width t).take j):=⟨_,fun _=>rfl⟩
     have dl:i*f.width+f.width=m1:=by rw[←bh,BG]
     have e3:AJ .i64 ((i:Int)*(f.width:Int))=((i*f.width:Nat):Int):=by rw[←Int.natCast_mul];exact aAd oM
     generalize c6:i*f.width=iw at*
     have cj:B 0=ab:=by rw[hB,List.take_zero,bBl]
     have cm:B f.width=aOz ab iw (tw f.width t):=by rw[hB,A4 oM]
     have bz:∀j,(B j).length=g2.n:=fun j=>by rw[hB,aGe (by rw[BN,aq,ad];omega),ad]
     repeat(refine sv ?_;intros)
     rename_i b6
     refine G.loop (X:=Nat) (fun j=>j≤f.width) (fun j=>[(56,.int .i64 (j:Int)),(55,.int .i64 (f.width:Int)),(54,.slice (some ⟨b6,0,none⟩) f.width 5),(0,pv bx),(1,pv aa)])
      (fun j=>[[(b6,row tc 33)],c3,[(g2.bb,row [.slice (some ⟨g2.br,0,none⟩) g2.n g2.n] 177)],aAi bw bd ba bs,av,cs,aw,ax,[(aa,row [pv g2.bb,.int .i64 (f.width:Int),.int .i64 (i:Int),.int .i64 o.c0,.int .i64 o.c1,.int .i64 o.c2,.int .i64 o.c3,.int .i64 o.c4] 218)],[(g2.br,row (aAg (B j)) 174)]])
      (fun j=>f.width-j) 0 (AS _) oA3 (by rw[cj];exact oA1) ?_
     intro j hj
     by_cases cu:j<f.width
     ·have dm:=bk j oM
      have c7:(aAg (B j)).set (iw+j) (.int .u64 (wd (t.col j)))=aAg (B (j+1)):=by
       rw[aGw,hB,hB,aVr (ci j cu ay) (by rw[aq,ad];omega)]
      have c8:(aAg (B j)).length=g2.n:=by rw[aBz,bz]
      have e4:AJ .i64 ((iw:Int)+(j:Int))=((iw+j:Nat):Int):=by rw[←DA];exact aAd oM
      repeat(refine sv ?_;intros)
      exact Dn.round (j+1) oM oM
     ·obtain rfl:j=f.width:=by omega
      repeat(refine sv ?_;intros)
      refine Dn.round ⟨i+1,av,c3,aw,ax,W3,B f.width⟩ ⟨az,oD,⟨ae.dev,ae.ar.perm a2.symm,ae.sp,ae.nn,ae.live⟩,?_,bq.trans aj,bu.trans an,bv.trans ak,by rw[e6];exact al,by rw[←Nat.add_assoc];exact e9,bz _,?_⟩ oD
      ·have:=ac.trans bp
       rw[be] at this
       refine this.weak ?_ (AG _)
       have m1:aAb W.δ.size f.width pos≤aAb W.δ.size f.width (pos+i):=aAm oM
       have m2:aAb W.δ.size f.width (pos+i)≤aAb W.δ.size f.width (pos+i+1):=aAm oM
       dsimp only
       rw[←Nat.add_assoc]
       omega
      ·have:=aPa (buf:=ab) (ws:=tw f.width t) (n:=iw) (by rw[aq,ad];omega)
       dsimp only
       rw[bh,show m1=iw+(tw f.width t).length by omega,cm,this,a1,aOu,ap]
       simp[aBr]
    ·repeat(refine sv ?_;intros)
     (refine Dn.post (Hr:=[aAi bw bd ba bs,av,bo,cs,aw,ax,[(aa,row (aCa g2.bb f.width i o) 218)],[(g2.br,row (aAg ab) 174)]]) Tryz.results215 (hR:= ?_);refine⟨av,bo,W3,aw,ax,_,ab,i,rfl,ae,?_,bq.trans aj,bu.trans an,bv.trans ak,ad,rfl,ap,.inr ⟨rfl,bf e6,e8,e9,bc⟩⟩)
     have:=ac.trans bp
     exact{this with acts:=⟨this.acts.1,by rw[e7];exact ac.acts.2⟩}
   ·have b1:=aGf bw bx W2 f fts g ah ai (by rw[show f.count=pos+i by omega];exact ao)
    have hz:tv T5.zero= .agg (aAk T5.zero).toArray:=rfl
    rw[hz] at b1
    refine R.call (hct:=b1) (h:= ?_)
    rintro _ _ ⟨rfl,rfl⟩
    try dsimp only[AA,AB]
    repeat(refine sv ?_;intros)
    (refine Dn.post (Hr:=[aAi bw bd ba bs,am,c2++[(g2.bb,row [.slice (some ⟨g2.br,0,none⟩) g2.n g2.n] 177)],cs,ah,ai,[(aa,row (aCa g2.bb f.width i o) 218)],[(g2.br,row (aAg ab) 174)]]) Tryz.results215 (hR:= ?_);refine⟨am,_,W2,ah,ai,_,ab,i,rfl,au,ac,aj,an,ak,ad,rfl,ap,.inl ⟨rfl,oM,al,ao⟩⟩)
  ·have b7:¬m1≤g2.n:=fun e=>az (bg.1 e)
   obtain rfl:i=c:=by omega
   repeat(refine sv ?_;intros)
   apply Dn.join (c1:=c2) (c2:=[(g2.bb,row [.slice (some ⟨g2.br,0,none⟩) g2.n g2.n] 177)])
   ·(repeat(first|exact aAn.here|apply aAn.there))
   ·(repeat(first|exact aAn.here|apply aAn.there))
   (refine Dn.post (Hr:=[aAi bw bd ba bs,am,c2++[(g2.bb,row [.slice (some ⟨g2.br,0,none⟩) g2.n g2.n] 177)],cs,ah,ai,[(aa,row (aCa g2.bb f.width i o) 218)],[(g2.br,row (aAg ab) 174)]]) Tryz.results215 (hR:= ?_);refine⟨am,_,W2,ah,ai,_,ab,i,rfl,au,ac,aj,an,ak,ad,rfl,ap,.inl ⟨rfl,oM,al,ao⟩⟩)
 ·simp only[AW,A5,AQ,AP]
  refine BE _ (BE _ ?_)
  rw[←AP c1]
  exact DB _ a7
def aAj (fs:List Fl):List Value:=fs.flatMap fun f=>[.int .i64 (f.first:Int),.int .i64 (f.blocks:Int),.int .i64 (f.width:Int),.int .i64 (f.count:Int)]
theorem aCq (a b:List Fl):aAj (a++b)=aAj a++aAj b:=by simp[aAj]
def aCj (f:Fl) (live:List Ext):List Ext:=if f.blocks=0 then live else f.ext::live
theorem bHn {α:Type} {ca c1 g A B X Y:List α} (h:ca.Perm (c1++g)):(ca++(A++(B++(X++Y)))).Perm (c1++(A++(B++(X++(g++Y))))):=by
 refine(h.append_right _).trans ?_
 rw[AP]
 refine BE _ ?_
 refine(List.perm_append_comm_assoc _ _ _).trans (BE _ ?_)
 refine(List.perm_append_comm_assoc _ _ _).trans (BE _ ?_)
 exact List.perm_append_comm_assoc _ _ _
structure LayRX where
 i:Nat
 cd:aAc
 c1:aAc
 cs:aAc
 cx:aAc
 cb:aAc
 W:Wk
 last:T5
 some:Bool
theorem lay_ct (bz bw bd ba bs:Nat) (W:Wk) (cd ca cs:aAc) (h:Wc bd ba bs W cd ca cs) (g:Gr) (hg:g∈W.α.gs) (ae k:Nat) (o:T5) (once:Bool) (ts:List T5) (ws:List Int) (ci:ws.length=g.n) (hT:aKf g k ts.length ts) (hw:ws.take (ts.length*k)=aBr k ts)
  (p:Option Addr) (cap:Nat) (last:T5) (some:Bool) (fs:List Fl) (vc:aAc) (hV:Vec 42 4 p fs.length cap (aAj fs) vc) (hr:W.δ.size≤W.α.room-W.α.used) (da:W.δ.acts≤100000000000) (hn:ts.length≤100000000) (c9:fs.length≤100000000):
  Ct AC 216 [pv bz,pv ae] [aQp bz bw o once p fs.length cap last some,aAi bw bd ba bs,cd,ca,cs,vc,[(ae,row (aCa g.bb k ts.length o) 218)],[(g.br,row (aAg ws) 174)]] fun v H'=>
   ∃cd' ca' cs' W' vc' ws' p' cap' last' some' fs',H'=[aQp bz bw o once p' fs'.length cap' last' some',aAi bw bd ba bs,cd',ca',cs',vc',[(ae,row (aCa g.bb k ts.length o) 218)],[(g.br,row (aAg ws') 174)]]∧Wc bd ba bs W' cd' ca' cs'∧
    Ev W W' (aAb W.δ.size k ts.length) (aAb W.δ.size k ts.length)∧aBv W.live W W'∧W'.α.gs.Perm W.α.gs∧ws'.length=g.n∧Vec 42 4 p' fs'.length cap' (aAj fs') vc'∧
    ((v= .int .i64 0∧∃f out,fs'=fs++[f]∧W'.live=aCj f W.live∧f.width=k∧f.count≤ts.length∧aAq W'.δ.disk W.δ.size [f.ext] f out∧Sd (ltO o) once out∧Go.Srt.Sp (ltO o) once ts out)∨
     (v= .int .i64 5∧fs'=fs∧big W.σ.free<aAb W.δ.size k ts.length∧W'.live.Perm W.live)∨
     (v= .int .i64 6∧fs'=fs∧W.δ.fault≠-1∧W'.live.Perm W.live)):=by
 obtain⟨⟨cj,db⟩,dc,dd⟩:=h.dev.num
 have a7:=hT.k1
 have aj:=hT.k5
 have hp:=aAl cj a7 aj
 obtain⟨c1,bp⟩:=h.ar.open_ hg
 have h':Wc bd ba bs W cd (c1++[g.obj]) cs:=⟨h.dev,h.ar.perm bp.symm,h.sp,h.nn,h.live⟩
 have au:ws=aBr k ts++ws.drop (ts.length*k):=by rw[←hw,List.take_append_drop]
 obtain⟨rest,av⟩:∃rest,rest=ws.drop (ts.length*k):=⟨_,rfl⟩
 rw[←av] at au
 have de:rest.length+ts.length*k=g.n:=by
  have:=congrArg List.length au
  rw[AF,aCh aj,ci] at this
  omega
 subst au
 clear av hw
 have hS:=bHj ae g k ts.length o rest ts hT
 refine Ct.permH (H2:=[aQp bz bw o once p fs.length cap last some,aAi bw bd ba bs,cd,c1,cs,vc,[(ae,row (aCa g.bb k ts.length o) 218)],[g.obj],[(g.br,row (aAg (aBr k ts++rest)) 174)]]) ?_ ?_
 ·unfold aEz at hS
  unfold aQp aHt
  generalize a1:[g.obj]=ak at*
  refine Ct.go Tryz.func216 Tryz.ntmps216 fun w0=> ?_
  repeat(first|(refine sv ?_;intros)|refine cq hA ?_)
  refine R.call (hct:=hS) (h:= ?_)
  rintro _ _ ⟨rfl,aa,rfl,a8,cm,cu⟩
  try dsimp only[AA,AB]
  clear hS
  have ad:=a8.len
  obtain⟨e1,e2⟩:=bHm (once:=once) cm cu
  have df:=aWf o once aa
  unfold aCa at*
  have cv:=aKd bw bd ba bs W cd _ cs h' k ts.length a7 aj hn hr
  have a9:=fun i hi=>bQj ae g k o aa rest a7 aj hT.gn (by rw[ad];exact hT.fit) a8.ok i hi
  unfold aEz aCa at a9
  rw[a1,ad] at a9
  rw[ad]
  repeat(first|(refine sv ?_;intros)|refine cq hA ?_)
  apply R1.join (c1:=c1) (c2:=ak)
  ·(repeat(first|exact aAn.here|apply aAn.there))
  ·(repeat(first|exact aAn.here|apply aAn.there))
  apply R.call
  ·exact rfl
  ·exact cv
  ·exact oA1
  ·exact rfl
  ·exact nle rfl
  rintro _ _ (⟨c8,bx,first,g1,cd',ca',cs',W1,cx,cb,rfl,rfl,al,bc,e3,e4,e5,e6,e7⟩|⟨be,rfl,cd',ca',cs',W1,rfl,al,bc,e3,e4,e5⟩)
  ·obtain⟨c2,bf⟩:=al.ar.open_ (g:=g) (e4.mem_iff.2 (AI _ hg))
   rw[a1] at bf
   apply R.open bf
   ·(repeat(first|exact aAn.here|apply aAn.there))
   repeat(first|(refine sv ?_;intros)|refine cq hA ?_)
   refine G.loop (X:=LayRX) (fun x=>x.i≤ts.length∧Wc bd ba bs x.W x.cd (x.c1++ak) x.cs∧Ev W x.W ((aGr o once (aa.take x.i)).length/aAf W.δ.size k) (aAb W.δ.size k ts.length)∧aBv W.live W x.W∧x.W.α.gs.Perm (g1::W.α.gs)∧aDv first (aAb W.δ.size k ts.length) W.live x.W.live∧
     aHy bw bx x.W first (aAb W.δ.size k ts.length) k ts.length g1 (aGr o once (aa.take x.i)) x.cx x.cb∧bHk (aGr o once (aa.take x.i)) x.last x.some)
    (fun x=>[(39,.int .i64 (x.i:Int)),(38,.int .i64 (ts.length:Int)),(5,pv bx),(0,pv bz),(1,pv ae)])
    (fun x=>[[(bz,row [pv bw,.int .i64 o.c0,.int .i64 o.c1,.int .i64 o.c2,.int .i64 o.c3,.int .i64 o.c4,.bool once,.slice p fs.length cap,.int .i64 x.last.c0,.int .i64 x.last.c1,.int .i64 x.last.c2,.int .i64 x.last.c3,.int .i64 x.last.c4,.bool x.some] 200)],aAi bw bd ba bs,x.cd,x.c1,x.cs,x.cx,x.cb,vc,[(ae,row [pv g.bb,.int .i64 (k:Int),.int .i64 (ts.length:Int),.int .i64 o.c0,.int .i64 o.c1,.int .i64 o.c2,.int .i64 o.c3,.int .i64 o.c4] 218)],ak,[(g.br,row (aAg (aBr k aa++rest)) 174)]])
    (fun x=>ts.length-x.i) ⟨0,cd',c2,cs',cx,cb,W1,last,false⟩
    ⟨AS _,⟨al.dev,al.ar.perm bf.symm,al.sp,al.nn,al.live⟩,by simpa[aGr] using bc,fun x _=>by rw[e3],e4,e6,by simpa[aGr] using e7,by simp[aGr,bHk]⟩ (body:= ?_)
   rintro⟨i,bq,c3,bu,bv,b1,W2,ab,ag⟩ ⟨hi,bg,ah,aw,ax,a2,a3,b2⟩
   dsimp only at hi bg ah aw ax a2 a3 b2⊢
   have cw:=ah.acts
   have b3:=ah.size
   have b4:=aWf o once (aa.take i)
   rw[BN] at b4
   have dg:(aGr o once (aa.take i)).length/aAf W.δ.size k≤ts.length:=BB (CW _ _) oM
   have a5:W2.δ.fault=0→W.δ.fault≠-1:=fun e0 e1=>by have:=ah.fault e1;omega
   by_cases b5:i<ts.length
   ·have a4:i<aa.length:=oM
    have bh:=bOp bz bw bd ba bs W2 bq _ bu bg bx first _ k ts.length g1 _ bv b1 a3 W.α.gs ax W.live a2 oM (at_ aa i) (a8.ok _ (by unfold at_;rw[AN,AE a4];exact B5 a4)) oM o once p fs.length cap ab ag b2
    have b6:aLq o once (aGr o once (aa.take i)) (at_ aa i)=aGr o once (aa.take (i+1)):=by
     rw[bEa a4];unfold at_;rw[AN,AE a4];rfl
    rw[b6] at bh
    have hA:=a9 i b5
    unfold aQp aHt at bh
    repeat(first|(refine sv ?_;intros)|refine cq hA ?_)
    apply R1.join (c1:=c3) (c2:=ak)
    ·(repeat(first|exact aAn.here|apply aAn.there))
    ·(repeat(first|exact aAn.here|apply aAn.there))
    refine R.call (hct:=bh) (h:= ?_)
    rintro _ _ ⟨am,ao,an,W3,bi,b7,ac,ap,rfl,ai,ay,az,⟨rfl,e8,e9,aq,a0,bk⟩|⟨rfl,e8,e9,aq,a0,bk⟩⟩
    try dsimp only[AA,AB]
    ·obtain⟨c4,bo⟩:=ai.ar.open_ (g:=g) (by rw[e8];exact ax.mem_iff.2 (AI _ hg))
     rw[a1] at bo
     apply R.open bo
     ·(repeat(first|exact aAn.here|apply aAn.there))
     repeat(first|(refine sv ?_;intros)|refine cq hA ?_)
     refine Dn.round ⟨i+1,am,c4,an,bi,b7,W3,ac,ap⟩ ⟨b5,⟨ai.dev,ai.ar.perm bo.symm,ai.sp,ai.nn,ai.live⟩,?_,aw.trans az,by rw[e8];exact ax,by rw[aq];exact a2,a0,bk⟩ oD
     have:=ah.trans ay
     rw[b3] at this
     refine this.weak ?_ (AG _)
     have hm:(aGr o once (aa.take i)).length/aAf W.δ.size k≤(aGr o once (aa.take (i+1))).length/aAf W.δ.size k:=BX (by rw[←b6];exact(aNu _ _ _ _).1)
     dsimp only
     omega
    ·have cz:=bGu bx bi bk
     repeat(first|(refine sv ?_;intros)|refine cq hA ?_)
     refine R.call (hct:=cz) (h:= ?_)
     rintro _ _ ⟨rfl,rfl⟩
     try dsimp only[AA,AB]
     repeat(first|(refine sv ?_;intros)|refine cq hA ?_)
     (refine Dn.post (Hr:=[[(bz,row [pv bw,.int .i64 o.c0,.int .i64 o.c1,.int .i64 o.c2,.int .i64 o.c3,.int .i64 o.c4,.bool once,.slice p fs.length cap,.int .i64 ac.c0,.int .i64 ac.c1,.int .i64 ac.c2,.int .i64 ac.c3,.int .i64 ac.c4,.bool ap] 200)],aAi bw bd ba bs,am,ao,an,vc,[(ae,row [pv g.bb,.int .i64 (k:Int),.int .i64 (ts.length:Int),.int .i64 o.c0,.int .i64 o.c1,.int .i64 o.c2,.int .i64 o.c3,.int .i64 o.c4] 218)],[(g.br,row (aAg (aBr k aa++rest)) 174)]]) Tryz.results216 (hR:= ?_);refine⟨am,ao,an,W3,vc,aBr k aa++rest,p,cap,ac,ap,fs,rfl,ai,?_,aw.trans az,aq,by rw[AF,aCh aj,ad];omega,hV,.inr (.inr ⟨rfl,rfl,a5 e8,a0⟩)⟩)
     have:=ah.trans ay
     refine{this with acts:=⟨this.acts.1,?_⟩}
     rw[e9]
     refine BB ah.acts.2 (Nat.add_le_add_left ?_ _)
     refine BB (BX (c:=aAf W.δ.size k) (show _≤ts.length by omega)) ?_
     unfold aAb;exact BX oM
   ·obtain rfl:i=ts.length:=by omega
    have c5:aa.take ts.length=aa:=by rw[←ad];exact List.take_length
    rw[c5] at a3 ah
    have b8:=aPc bw bd ba bs W2 bq _ bu bg bx first _ k ts.length g1 _ bv b1 a3 W.α.gs ax W.live a2 oM
    rw[b3] at b8
    have dh:aAb W.δ.size k (aGr o once aa).length≤aAb W.δ.size k ts.length:=aAm oM
    have di:(aGr o once aa).length/aAf W.δ.size k≤aAb W.δ.size k (aGr o once aa).length:=by unfold aAb;exact BX oM
    repeat(first|(refine sv ?_;intros)|refine cq hA ?_)
    apply R1.join (c1:=c3) (c2:=ak)
    ·(repeat(first|exact aAn.here|apply aAn.there))
    ·(repeat(first|exact aAn.here|apply aAn.there))
    refine R.call (hct:=b8) (h:= ?_)
    rintro _ _ ⟨am,ao,an,W3,bi,b7,rfl,ai,ay,az,b9,dj,⟨f,rfl,e8,e9,aq,a0⟩|⟨rfl,e8,e9,aq⟩⟩
    try dsimp only[AA,AB]
    ·have c6:flv f= .agg #[.int .i64 (f.first:Int),.int .i64 (f.blocks:Int),.int .i64 (f.width:Int),.int .i64 (f.count:Int)]:=rfl
     rw[c6]
     repeat(first|(refine sv ?_;intros)|refine cq hA ?_)
     rename_i p' cap' c' c7
     have cg:Vec 42 4 p' (fs.length+1) cap' (aAj (fs++[f])) c':=by rw[aCq];exact c7
     have a6:(fs++[f]).length=fs.length+1:=by simp
     rw[←a6] at cg
     (refine Dn.post (Hr:=[[(bz,row [pv bw,.int .i64 o.c0,.int .i64 o.c1,.int .i64 o.c2,.int .i64 o.c3,.int .i64 o.c4,.bool once,.slice p' (fs.length+1) cap',.int .i64 ab.c0,.int .i64 ab.c1,.int .i64 ab.c2,.int .i64 ab.c3,.int .i64 ab.c4,.bool ag] 200)],aAi bw bd ba bs,am,ao,an,c',[(ae,row [pv g.bb,.int .i64 (k:Int),.int .i64 (ts.length:Int),.int .i64 o.c0,.int .i64 o.c1,.int .i64 o.c2,.int .i64 o.c3,.int .i64 o.c4] 218)],[(g.br,row (aAg (aBr k aa++rest)) 174)]]) Tryz.results216 (hR:= ?_);refine⟨am,ao,an,W3,c',aBr k aa++rest,p',cap',ab,ag,fs++[f],by rw[a6],ai,?_,aw.trans az,b9,by rw[AF,aCh aj,ad];omega,cg,.inl ⟨rfl,f,_,rfl,e8,e9,oM,a0,e1,e2⟩⟩)
     exact(ah.trans ay).weak oM (AG _)
    ·repeat(first|(refine sv ?_;intros)|refine cq hA ?_)
     (refine Dn.post (Hr:=[[(bz,row [pv bw,.int .i64 o.c0,.int .i64 o.c1,.int .i64 o.c2,.int .i64 o.c3,.int .i64 o.c4,.bool once,.slice p fs.length cap,.int .i64 ab.c0,.int .i64 ab.c1,.int .i64 ab.c2,.int .i64 ab.c3,.int .i64 ab.c4,.bool ag] 200)],aAi bw bd ba bs,am,ao,an,vc,[(ae,row [pv g.bb,.int .i64 (k:Int),.int .i64 (ts.length:Int),.int .i64 o.c0,.int .i64 o.c1,.int .i64 o.c2,.int .i64 o.c3,.int .i64 o.c4] 218)],[(g.br,row (aAg (aBr k aa++rest)) 174)]]) Tryz.results216 (hR:= ?_);refine⟨am,ao,an,W3,vc,aBr k aa++rest,p,cap,ab,ag,fs,rfl,ai,?_,aw.trans az,b9,by rw[AF,aCh aj,ad];omega,hV,.inr (.inr ⟨rfl,rfl,a5 e8,aq⟩)⟩)
     exact(ah.trans ay).weak oM (AG _)
  ·rw[←a1] at*
   repeat(first|(refine sv ?_;intros)|refine cq hA ?_)
   (refine Dn.post (Hr:=[[(bz,row [pv bw,.int .i64 o.c0,.int .i64 o.c1,.int .i64 o.c2,.int .i64 o.c3,.int .i64 o.c4,.bool once,.slice p fs.length cap,.int .i64 last.c0,.int .i64 last.c1,.int .i64 last.c2,.int .i64 last.c3,.int .i64 last.c4,.bool false] 200)],aAi bw bd ba bs,cd',ca',cs',vc,[(ae,row [pv g.bb,.int .i64 (k:Int),.int .i64 (ts.length:Int),.int .i64 o.c0,.int .i64 o.c1,.int .i64 o.c2,.int .i64 o.c3,.int .i64 o.c4] 218)],[(g.br,row (aAg (aBr k aa++rest)) 174)]]) Tryz.results216 (hR:= ?_);refine⟨cd',ca',cs',W1,vc,aBr k aa++rest,p,cap,last,false,fs,rfl,al,bc.weak (AS _) (AS _),fun x _=>by rw[e3],e5,by rw[AF,aCh aj,ad];omega,hV,.inr (.inl ⟨rfl,rfl,be,by rw[e4]⟩)⟩)
 ·simp only[AW,A5,AQ,AP]
  exact BE _ (BE _ (BE _ (bHn bp)))
def aAz (fs:List Fl) (live:List Ext):List Ext:=fs.foldl (fun l f=>aCj f l) live
theorem aIm (fs:List Fl) (f:Fl) (live:List Ext):aAz (fs++[f]) live=aCj f (aAz fs live):=by simp[aAz]
theorem aCw {f:Fl} {a b:List Ext} (h:a.Perm b):(aCj f a).Perm (aCj f b):=by
 unfold aCj;split
 ·exact h
 ·exact h.cons _
theorem aKy {f:Fl} {a:List Ext} {e:Ext} (h:e∈a):e∈aCj f a:=by
 unfold aCj;split
 ·exact h
 ·exact AI _ h
theorem aCx {fs:List Fl} {a:List Ext} {e:Ext} (h:e∈a):e∈aAz fs a:=by
 unfold aAz
 induction fs generalizing a with
 |nil=>exact h
 |cons f fs ih=>exact ih (aKy h)
theorem aHa {fs:List Fl} {a:List Ext} {f:Fl} (h:f∈fs) (hb:f.blocks≠0):f.ext∈aAz fs a:=by
 induction fs generalizing a with
 |nil=>simp at h
 |cons x fs ih=>
  rcases List.mem_cons.1 h with rfl|h
  ·have h1:f.ext∈aCj f a:=by unfold aCj;rw[if_neg hb];exact AH
   exact aCx (fs:=fs) h1
  ·exact ih h
structure aCt (d:Nat→Option (List Int)) (size k:Nat) (o:T5) (once:Bool) (l:List T5) (rs:List (Fl×List T5)):Prop where
 each:∀r∈rs,r.1.width=k∧aAq d size [r.1.ext] r.1 r.2∧Sd (ltO o) once r.2
 sp:Go.Srt.Sp (ltO o) once l (rs.flatMap (·.2))
 pos:l≠[]→∀r∈rs,0<r.1.count
theorem bHo {o:T5} {once:Bool} {a b:List T5} (h:Go.Srt.Sp (ltO o) once a b) (hb:b=[]):a=[]:=by
 subst hb
 cases a with
 |nil=>rfl
 |cons x a=>
  have h1:=h x
  have h2:eqv (ltO o) x x=true:=aCv.2 ⟨(aBy o).irr _,(aBy o).irr _⟩
  rw[List.filter_cons_of_pos h2] at h1
  cases once<;>simp[aGz] at h1
theorem aCt.keep {d d':Nat→Option (List Int)} {size k:Nat} {o:T5} {once:Bool} {l:List T5} {rs:List (Fl×List T5)} (h:aCt d size k o once l rs) {live0:List Ext} (hk:∀x,inF (aAz (rs.map (·.1)) live0) x→d' x=d x):aCt d' size k o once l rs:=
 ⟨fun r hr=>⟨(h.each r hr).1,(h.each r hr).2.1.keep fun x hx=>hk x (by
   obtain⟨e,he,h1,h2⟩:=hx
   simp only[AT] at he
   subst he
   refine⟨r.1.ext,aHa (List.mem_map.2 ⟨r,hr,rfl⟩) ?_,h1,h2⟩
   simp only[Fl.ext] at h1 h2;omega),(h.each r hr).2.2⟩,h.sp,h.pos⟩
theorem aCt.more {d:Nat→Option (List Int)} {size k:Nat} {o:T5} {once:Bool} {l src out:List T5} {rs:List (Fl×List T5)} {f:Fl} (h:aCt d size k o once l rs) (h1:f.width=k) (h2:aAq d size [f.ext] f out) (h3:Sd (ltO o) once out) (h4:Go.Srt.Sp (ltO o) once src out) (h5:rs=[]∨(l≠[]∧src≠[])):
  aCt d size k o once (l++src) (rs++[(f,out)]):=
 ⟨fun r hr=>by
  rcases AO.1 hr with hr|hr
  ·exact h.each r hr
  ·simp only[AT] at hr
   subst hr;exact⟨h1,h2,h3⟩,by
  rw[List.flatMap_append]
  refine Go.Srt.Sp.app h.sp ?_
  simpa using h4,fun ab r hr=>by
  have ac:=h2.len
  have aa:src≠[]→0<f.count:=fun hs=>by
   rw[←ac]
   cases out with
   |nil=>exact absurd (bHo h4 rfl) hs
   |cons a b=>simp
  rcases h5 with rfl|⟨h6,h7⟩
  ·have hl:l=[]:=bHo h.sp rfl
   subst hl
   simp only[AB,AT] at ab hr
   subst hr;exact aa ab
  ·rcases AO.1 hr with hr|hr
   ·exact h.pos h6 r hr
   ·simp only[AT] at hr
    subst hr;exact aa h7⟩
theorem aAx {s k n:Nat} (hp:1≤aAf s k):aAb s k n≤n:=by
 unfold aAb
 rw[DX oM]
 have:=DW n (show 0<aAf s k by omega)
 omega
theorem Ev.arena {W W':Wk} {α α8:Ar} {k m:Nat} (h:Ev W W' k m) (h8:α8.room=W'.α.room) (h9:Ev {W' with α:=α8} {W' with α:=α} 0 0):Ev W {W' with α:=α} k m:={h with room:=h9.room.trans (h8.trans h.room)}
theorem S_le {S pos q h:Nat} (hh:1≤h) (hS:S*h≤pos+q*(h-1)):S≤pos+q:=by
 apply DI
 intro hn
 have h1:(pos+q+1)*h≤S*h:=A7 _ oM
 have h2:(pos+q+1)*h=pos*h+q*h+h:=by rw[DQ,DQ,Nat.one_mul]
 have h3:pos≤pos*h:=Nat.le_mul_of_pos_right _ oM
 have h4:q*(h-1)≤q*h:=Nat.mul_le_mul_left _ oM
 omega
theorem aRq {S pos q h m n:Nat} (hh:1≤h) (hS:S*h≤pos+q*(h-1)) (hn:n=(m+h-1)/h):(S+n)*h≤pos+m+(q+1)*(h-1):=by
 have h1:n*h≤m+h-1:=by rw[hn];exact DN _ _
 rw[DQ,BG]
 omega
structure FormX where
 q:Nat
 pos:Nat
 S:Nat
 n0:Nat
 rs:List (Fl×List T5)
 cd:aAc
 ca:aAc
 cs:aAc
 cx:aAc
 cb:aAc
 vc:aAc
 ws:List Int
 W:Wk
 p:Option Addr
 cap:Nat
 last:T5
 some:Bool
theorem bQo (bz bw bd ba bs:Nat) (W:Wk) (cd ca cs:aAc) (h:Wc bd ba bs W cd ca cs) (f:Fl) (fts:List T5) (Lv:List Ext) (cj:aAq W.δ.disk W.δ.size Lv f fts) (dt:∀e∈Lv,e∈W.live) (o:T5) (once:Bool) (last:T5) (some:Bool)
  (hr:5*W.δ.size≤W.α.room-W.α.used) (f2:W.δ.acts≤10000000000) (f6:f.count≤1000000) (L0 c:Nat) (f1:L0=W.α.room-W.α.used) (hc:c=(L0-2*W.δ.size)/f.width):
  Ct AC 179 [pv bz,flv f] [aQp bz bw o once none 0 0 last some,aAi bw bd ba bs,cd,ca,cs] fun v H'=>
   ∃cd' ca' cs' W' vc' p' cap' last' some' rs q S l,H'=[aQp bz bw o once p' rs.length cap' last' some',aAi bw bd ba bs,cd',ca',cs',vc']∧Wc bd ba bs W' cd' ca' cs'∧
    Ev W W' (aAb W.δ.size f.width f.count+S) S∧aBv W.live W W'∧W'.α.gs.Perm W.α.gs∧Vec 42 4 p' rs.length cap' (aAj (rs.map (·.1))) vc'∧W'.live.Perm (aAz (rs.map (·.1)) W.live)∧
    aCt W'.δ.disk W.δ.size f.width o once l rs∧S*aAf W.δ.size f.width≤f.count+q*(aAf W.δ.size f.width-1)∧(q-1)*c≤f.count∧(0<f.count→(q-1)*c<f.count)∧q≤f.count+1∧
    ((v= .int .i64 0∧l=fts∧rs≠[]∧rs.length=q∧((rs.map (·.1.count)).sum≤f.count)∧((rs.map (·.1.blocks)).sum≤S))∨(v= .int .i64 5∧big W.σ.free<S)∨(v= .int .i64 6∧W.δ.fault≠-1)):=by
 obtain⟨⟨ew,f7⟩,f8,ga⟩:=h.dev.num
 obtain⟨gb,gc,_,du⟩:=h.ar.num
 have dw:=cj.w1
 have dx:=cj.w2
 have hp:=aAl ew dw dx
 have dy:=cj.len
 have dz:=aIk bw bd ba bs W cd ca cs h f fts Lv cj oM
 have hD:=aGx bw bd ba bs
 have hA:=aGy bw bd ba bs
 have ey:flv f= .agg #[.int .i64 (f.first:Int),.int .i64 (f.blocks:Int),.int .i64 (f.width:Int),.int .i64 (f.count:Int)]:=rfl
 rw[ey] at dz⊢
 unfold aQp aHt
 refine Ct.introD Tryz.func179 rfl Tryz.ntmps179 (nle rfl) fun w0=> ?_;dsimp only[aAa,AD]
 repeat(first|(refine sv ?_;intros)|refine G.draw (id:=5) [(4,.quiet),(9,.quiet),(10,.quiet),(15,.quiet),(16,.quiet)] (h:= ?_)|refine cq hD ?_|refine cq hA ?_|refine cq hL ?_|refine cq hSz ?_)
 refine R.call (hct:=dz) (h:= ?_)
 rintro _ _ ⟨bx,g,d0,α1,cx,cb,rfl,rfl,c7,ez,d1,d2,e0⟩
 try dsimp only[AA,AB]
 have gd:α1.used=W.α.used+W.δ.size:=by
  have e1:=c7.ar.num.2.2.2
  dsimp only at e1
  rw[e1,(d1.map (·.n)).sum_nat,du,AZ,DM,d2];omega
 have c8:α1.room=W.α.room:=ez.room
 have hL:=bLn ba α1 d0 c7.ar
 rw[show(α1.room:Int)-(α1.used:Int)=((L0-W.δ.size:Nat):Int) by omega] at hL
 have hSz:=aGq bd W.δ cd c7.dev
 have eb:AJ .i64 (((L0-W.δ.size:Nat):Int)-(W.δ.size:Int))=((L0-2*W.δ.size:Nat):Int):=by rw[aAd oM];omega
 have e2:=bGj ba α1 d0 c7.ar (L0-2*W.δ.size) oM
 have ge:(L0-2*W.δ.size)≤1000000000:=oM
 generalize hM:L0-2*W.δ.size=M at*
 repeat(first|(refine sv ?_;intros)|refine G.draw (id:=5) [(4,.quiet),(9,.quiet),(10,.quiet),(15,.quiet),(16,.quiet)] (h:= ?_)|refine cq hD ?_|refine cq hA ?_|refine cq hL ?_|refine cq hSz ?_)
 refine R.call (hct:=e2) (h:= ?_)
 rintro _ _ ⟨g2,e3,α2,bi,rfl,e4,e5,c9,rfl⟩
 try dsimp only[AA,AB]
 repeat(first|(refine sv ?_;intros)|refine G.draw (id:=5) [(4,.quiet),(9,.quiet),(10,.quiet),(15,.quiet),(16,.quiet)] (h:= ?_)|refine cq hD ?_|refine cq hA ?_|refine cq hL ?_|refine cq hSz ?_)
 rename_i b3 b8
 have fa:c*f.width≤M:=by rw[hc];exact DN _ _
 have gf:3*W.δ.size≤M:=oM
 have gg:1≤c:=by rw[hc,CN oM];omega
 have dh:∀α:Ar,∀c',aKu ba α c'→α.gs.Perm (g::g2::W.α.gs)→α.room=W.α.room→W.δ.size≤α.room-α.used:=by
  intro α c' hA fb fc
  have e1:=hA.num.2.2.2
  rw[e1,(fb.map (·.n)).sum_nat,AZ,AZ,DM,DM,d2,bi,←du,fc];omega
 refine G.loop (X:=FormX) (fun x=>x.q=x.rs.length∧x.pos=min (x.q*c) f.count∧(x.q=0∨(x.q-1)*c<f.count)∧x.S*aAf W.δ.size f.width≤x.pos+x.q*(aAf W.δ.size f.width-1)∧(x.rs.map (·.1.count)).sum≤x.pos∧(x.rs.map (·.1.blocks)).sum≤x.S∧
   Wc bd ba bs x.W x.cd x.ca x.cs∧Ev W x.W (aAb W.δ.size f.width x.pos+x.S) x.S∧aBv W.live W x.W∧x.W.α.gs.Perm (g::g2::W.α.gs)∧x.W.live.Perm (aAz (x.rs.map (·.1)) W.live)∧aCt x.W.δ.disk W.δ.size f.width o once (fts.take x.pos) x.rs∧
   aGt bw bx x.W f fts g x.pos x.cx x.cb∧Vec 42 4 x.p x.rs.length x.cap (aAj (x.rs.map (·.1))) x.vc∧x.ws.length=g2.n)
  (fun x=>[(8,pv b8),(5,pv bx),(0,pv bz)])
  (fun x=>[[(b8,row [pv g2.bb,.int .i64 (f.width:Int),.int .i64 (x.n0:Int),.int .i64 o.c0,.int .i64 o.c1,.int .i64 o.c2,.int .i64 o.c3,.int .i64 o.c4] 218)],x.ca,[(g2.br,row (aAg x.ws) 174)],aAi bw bd ba bs,x.cd,x.cs,x.cx,x.cb,x.vc,[(bz,row [pv bw,.int .i64 o.c0,.int .i64 o.c1,.int .i64 o.c2,.int .i64 o.c3,.int .i64 o.c4,.bool once,.slice x.p x.rs.length x.cap,.int .i64 x.last.c0,.int .i64 x.last.c1,.int .i64 x.last.c2,.int .i64 x.last.c3,.int .i64 x.last.c4,.bool x.some] 200)]])
  (fun x=>f.count-x.pos) ⟨0,0,0,0,[],cd,e3,cs,cx,cb,[],List.replicate M 0,{W with α:=α2},none,0,last,some⟩
  ⟨rfl,by simp,.inl rfl,by simp,by simp,by simp,⟨h.dev,e4,h.sp,h.nn,h.live⟩,by rw[aEk hp];exact⟨rfl,rfl,⟨AG _,AG _⟩,id,by dsimp only;rw[c9,c8],AG _⟩,fun _ _=>rfl,?_,List.Perm.refl _,⟨by simp,by simpa using Go.Srt.Sp.refl _ _,by simp⟩,e0.move rfl,Vec.nil _ _,by rw[List.length_replicate,bi]⟩ oA3 oA0 ?_
 ·exact e5.trans ((d1.cons _).trans (CQ _ _ _))
 rintro⟨q,pos,S,n0,rs,fd,d3,bk,fe,fg,cu,fh,W1,p1,bo,ad,a0⟩ ⟨hq,d4,di,hS,fi,d5,df,hE,hK,dj,da,hR,d6,hV,d7⟩
 dsimp only at hq d4 di hS fi d5 df hE hK dj da hR d6 hV d7⊢
 have d8:=hE.size
 have fj:=hE.acts
 have fv:=S_le hp hS
 have gh:q≤f.count:=by
  rcases di with h0|h0
  ·omega
  ·have:=Nat.le_mul_of_pos_right (q-1) (show 0<c by omega)
   omega
 have gi:aAb W.δ.size f.width pos≤pos:=by
  unfold aAb
  rw[DX oM]
  have:=DW pos (show 0<aAf W.δ.size f.width by omega)
  omega
 have db:(q-1)*c≤f.count∧(0<f.count→(q-1)*c<f.count):=by
  rcases di with h0|h0
  ·rw[h0];simp
  ·exact⟨EJ h0,fun _=>h0⟩
 have d9:pos=f.count→fts.take pos=fts:=fun e=>A4 oM
 have bp:(rs.map (·.1)).length=rs.length:=AY _
 have dk:=bQn bw bd ba bs W1 fd d3 bk df bx f fts W.live (by rw[d8];exact(cj.sub dt).keep hK) (fun e he=>da.mem_iff.2 (aCx he)) g g2 (g2::W.α.gs) dj AH pos oM fe fg d6 oM b8 n0 o fh d7 oM
 rw[bi,←hc,d8] at dk
 unfold aCa at dk
 repeat(first|(refine sv ?_;intros)|refine G.draw (id:=5) [(4,.quiet),(9,.quiet),(10,.quiet),(15,.quiet),(16,.quiet)] (h:= ?_)|refine cq hD ?_|refine cq hA ?_|refine cq hL ?_|refine cq hSz ?_)
 refine R.call (hct:=dk) (h:= ?_)
 rintro _ _ ⟨b1,dc,W3,bq,b2,cv,fk,m,rfl,az,ea,dd,gj,ec,fm,b9,ee,⟨rfl,e6,e7,e8⟩|⟨rfl,e6,e7,e8,e9⟩⟩
 try dsimp only[AA,AB]
 ·have ef:pos+m=f.count→fts.take (pos+m)=fts:=fun e=>A4 oM
  have fw:m≤f.count-pos:=oM
  have cg:cv.length=m:=by rw[b9,BN,List.length_drop,dy];omega
  have aq:=hE.trans ea
  have fp:aAb W.δ.size f.width pos≤aAb W.δ.size f.width (pos+m):=aAm oM
  have fq:aAb W.δ.size f.width (pos+m)≤aAb W.δ.size f.width f.count:=aAm oM
  have b4:aBv W.live W W3:=fun x hx=>by rw[dd];exact hK x hx
  have au:W3.α.gs.Perm (g::g2::W.α.gs):=by rw[e7];exact dj
  have ab:W3.live.Perm (aAz (rs.map (·.1)) W.live):=by rw[ec];exact da
  have b5:aCt W3.δ.disk W.δ.size f.width o once (fts.take pos) rs:=by rw[dd];exact hR
  have dg:W3.δ.size=W.δ.size:=aq.size
  have eu:=aq.acts
  have fx:aAb W.δ.size f.width (pos+m)≤pos+m:=aAx hp
  by_cases eg:m=0∧0<q
  ·obtain⟨fy,eh⟩:=eg
   have gk:pos=f.count:=oM
   have ei:0<rs.length:=oM
   repeat(first|(refine sv ?_;intros)|refine G.draw (id:=5) [(4,.quiet),(9,.quiet),(10,.quiet),(15,.quiet),(16,.quiet)] (h:= ?_)|refine cq hD ?_|refine cq hA ?_|refine cq hL ?_|refine cq hSz ?_)
   have aw:=aDm ba W3.α dc az.ar g2 (g::W.α.gs) (au.trans (CQ _ _ _))
   refine Go.SL.Lv.call (hc:=aw.2) (h:= ?_)
   rintro _ _ ⟨am,α8,rfl,a1,a2,ac,rfl⟩
   try dsimp only[AA,AB]
   have a3:Wc bd ba bs {W3 with α:=α8} b1 am bk:=⟨az.dev,a1,az.sp,az.nn,az.live⟩
   have ax:=aDn bw bd ba bs {W3 with α:=α8} b1 am bk a3 bx f fts g W.α.gs a2 (pos+m) bq b2 (e8.move rfl)
   refine Go.SL.Lv.call (hc:=ax.2) (h:= ?_)
   rintro _ _ ⟨an,α9,cw,rfl,rfl,a4,a5,a6,cz⟩
   try dsimp only[AA,AB]
   (refine Go.SL.Lv.nil (Hr:=[[(bz,row [pv bw,.int .i64 o.c0,.int .i64 o.c1,.int .i64 o.c2,.int .i64 o.c3,.int .i64 o.c4,.bool once,.slice p1 rs.length bo,.int .i64 ad.c0,.int .i64 ad.c1,.int .i64 ad.c2,.int .i64 ad.c3,.int .i64 ad.c4,.bool a0] 200)],aAi bw bd ba bs,b1,an,bk,cu]) Tryz.results179 (hR:= ?_);exact⟨b1,an,bk,_,cu,p1,bo,ad,a0,rs,q,S,fts,rfl,a4,(aq.weak oM (AG _)).arena ac a5,b4,a6,hV,ab,by rw[←d9 oM];exact b5,oM,db.1,db.2,oM,.inl ⟨rfl,rfl,fun e=>by rw[e] at ei;simp at ei,hq.symm,oM,d5⟩⟩)
  ·have ci:=lay_ct bz bw bd ba bs W3 b1 dc bk az g2 (au.mem_iff.2 oA15) b8 f.width o once cv fk (by rw[bi];exact fm) ⟨dw,dx,oM,by rw[cg,bi];exact BB (A7 _ oM) fa,rfl,fun t ht=>cj.fit t (List.mem_of_mem_drop (List.mem_of_mem_take (b9▸ht)))⟩ (by rw[cg];exact ee)
    p1 bo ad a0 (rs.map (·.1)) cu (by rw[AY];exact hV) (by rw[dg];exact dh W3.α dc az.ar au aq.room) oM oM (by rw[AY];omega)
   rw[cg,AY,dg] at ci
   unfold aQp aHt aCa at ci
   by_cases cm:m=0
   ·have eh:q=0:=oM
    have ej:rs.length=0:=oM
    repeat(first|(refine sv ?_;intros)|refine G.draw (id:=5) [(4,.quiet),(9,.quiet),(10,.quiet),(15,.quiet),(16,.quiet)] (h:= ?_)|refine cq hD ?_|refine cq hA ?_|refine cq hL ?_|refine cq hSz ?_)
    refine R.call (hct:=ci) (h:= ?_)
    rintro _ _ ⟨ai,b6,aj,W5,av,ek,p5,al,aa,ag,fr,rfl,ae,ak,ay,b7,el,a7,⟨rfl,f5,out,rfl,a8,bh,em,bu,c5,c6⟩|⟨rfl,rfl,dl,a8⟩|⟨rfl,rfl,bh,a8⟩⟩
    try dsimp only[AA,AB]
    ·have bv:W5.α.room=W3.α.room:=ak.room
     have ao:W5.δ.size=W3.δ.size:=ak.size
     have ap:W5.α.gs.Perm (g::g2::W.α.gs):=b7.trans au
     have a9:=aq.trans ak
     have bc:=aRq (S:=S) (pos:=pos) (q:=q) (m:=m) hp hS rfl
     have be:Ev W W5 (aAb W.δ.size f.width (pos+m)+(S+aAb W.δ.size f.width m)) (S+aAb W.δ.size f.width m):=a9.weak oM oM
     have bf:aBv W.live W W5:=b4.trans (ay.sub fun e he=>ab.mem_iff.2 (aCx he))
     have bg:aCt W5.δ.disk W.δ.size f.width o once (fts.take pos) rs:=b5.keep (live0:=W.live) fun x hx=>ay x ((aGk ab x).2 hx)
     have ah:(q+1-1)*c≤f.count∧(0<f.count→(q+1-1)*c<f.count):=by
      rw[DK]
      by_cases cm:m=0
      ·have:q=0:=by omega
       subst this;simp
      ·have:q*c<f.count:=by omega
       exact⟨EJ this,fun _=>this⟩
     have en:f5.blocks≤aAb W.δ.size f.width m:=by rw[bu.blk,bh];exact aAm oM
     have hts:fts.take pos++cv=fts.take (pos+m):=by rw[b9,List.take_add]
     have dm:aCt W5.δ.disk W.δ.size f.width o once (fts.take (pos+m)) (rs++[(f5,out)]):=by rw[←hts];exact bg.more bh bu c5 c6 (.inl (EF.1 ej))
     have dp:W5.live.Perm (aAz ((rs++[(f5,out)]).map (·.1)) W.live):=by
      rw[a8,AX,List.map_singleton,aIm];exact aCw ab
     have dq:Vec 42 4 p5 (rs++[(f5,out)]).length al (aAj ((rs++[(f5,out)]).map (·.1))) av:=by simpa using a7
     have dr:(rs.map (·.1)++[f5]).length=(rs++[(f5,out)]).length:=by simp
     have eo:((rs++[(f5,out)]).map (·.1.count)).sum≤pos+m:=by simp;omega
     have ds:((rs++[(f5,out)]).map (·.1.blocks)).sum≤S+aAb W.δ.size f.width m:=by simp;omega
     rw[dr]
     repeat(first|(refine sv ?_;intros)|refine G.draw (id:=5) [(4,.quiet),(9,.quiet),(10,.quiet),(15,.quiet),(16,.quiet)] (h:= ?_)|refine cq hD ?_|refine cq hA ?_|refine cq hL ?_|refine cq hSz ?_)
     have aw:=aDm ba W5.α b6 ae.ar g2 (g::W.α.gs) (ap.trans (CQ _ _ _))
     refine Go.SL.Lv.call (hc:=aw.2) (h:= ?_)
     rintro _ _ ⟨am,α8,rfl,a1,a2,ac,rfl⟩
     try dsimp only[AA,AB]
     have a3:Wc bd ba bs {W5 with α:=α8} ai am aj:=⟨ae.dev,a1,ae.sp,ae.nn,ae.live⟩
     have ax:=aDn bw bd ba bs {W5 with α:=α8} ai am aj a3 bx f fts g W.α.gs a2 (pos+m) bq b2 (e8.move ao)
     refine Go.SL.Lv.call (hc:=ax.2) (h:= ?_)
     rintro _ _ ⟨an,α9,cw,rfl,rfl,a4,a5,a6,cz⟩
     try dsimp only[AA,AB]
     (refine Go.SL.Lv.nil (Hr:=[[(bz,row [pv bw,.int .i64 o.c0,.int .i64 o.c1,.int .i64 o.c2,.int .i64 o.c3,.int .i64 o.c4,.bool once,.slice p5 (rs++[(f5,out)]).length al,.int .i64 aa.c0,.int .i64 aa.c1,.int .i64 aa.c2,.int .i64 aa.c3,.int .i64 aa.c4,.bool ag] 200)],aAi bw bd ba bs,ai,an,aj,av]) Tryz.results179 (hR:= ?_);exact⟨ai,an,aj,_,av,p5,al,aa,ag,rs++[(f5,out)],q+1,S+aAb W.δ.size f.width m,fts,rfl,a4,(be.weak oM (AG _)).arena ac a5,bf,a6,dq,dp,by rw[←ef oM];exact dm,BB bc (DH oM _),ah.1,ah.2,oM,.inl ⟨rfl,rfl,by simp,by simp[hq],oM,ds⟩⟩)
    ·have bv:W5.α.room=W3.α.room:=ak.room
     have ao:W5.δ.size=W3.δ.size:=ak.size
     have ap:W5.α.gs.Perm (g::g2::W.α.gs):=b7.trans au
     have a9:=aq.trans ak
     have bc:=aRq (S:=S) (pos:=pos) (q:=q) (m:=m) hp hS rfl
     have be:Ev W W5 (aAb W.δ.size f.width (pos+m)+(S+aAb W.δ.size f.width m)) (S+aAb W.δ.size f.width m):=a9.weak oM oM
     have bf:aBv W.live W W5:=b4.trans (ay.sub fun e he=>ab.mem_iff.2 (aCx he))
     have bg:aCt W5.δ.disk W.δ.size f.width o once (fts.take pos) rs:=b5.keep (live0:=W.live) fun x hx=>ay x ((aGk ab x).2 hx)
     have ah:(q+1-1)*c≤f.count∧(0<f.count→(q+1-1)*c<f.count):=by
      rw[DK]
      by_cases cm:m=0
      ·have:q=0:=by omega
       subst this;simp
      ·have:q*c<f.count:=by omega
       exact⟨EJ this,fun _=>this⟩
     repeat(first|(refine sv ?_;intros)|refine G.draw (id:=5) [(4,.quiet),(9,.quiet),(10,.quiet),(15,.quiet),(16,.quiet)] (h:= ?_)|refine cq hD ?_|refine cq hA ?_|refine cq hL ?_|refine cq hSz ?_)
     have aw:=aDm ba W5.α b6 ae.ar g2 (g::W.α.gs) (ap.trans (CQ _ _ _))
     refine Go.SL.Lv.call (hc:=aw.2) (h:= ?_)
     rintro _ _ ⟨am,α8,rfl,a1,a2,ac,rfl⟩
     try dsimp only[AA,AB]
     have a3:Wc bd ba bs {W5 with α:=α8} ai am aj:=⟨ae.dev,a1,ae.sp,ae.nn,ae.live⟩
     have ax:=aDn bw bd ba bs {W5 with α:=α8} ai am aj a3 bx f fts g W.α.gs a2 (pos+m) bq b2 (e8.move ao)
     refine Go.SL.Lv.call (hc:=ax.2) (h:= ?_)
     rintro _ _ ⟨an,α9,cw,rfl,rfl,a4,a5,a6,cz⟩
     try dsimp only[AA,AB]
     (refine Go.SL.Lv.nil (Hr:=[[(bz,row [pv bw,.int .i64 o.c0,.int .i64 o.c1,.int .i64 o.c2,.int .i64 o.c3,.int .i64 o.c4,.bool once,.slice p5 (rs.map (·.1)).length al,.int .i64 aa.c0,.int .i64 aa.c1,.int .i64 aa.c2,.int .i64 aa.c3,.int .i64 aa.c4,.bool ag] 200)],aAi bw bd ba bs,ai,an,aj,av]) Tryz.results179 (hR:= ?_);exact⟨ai,an,aj,_,av,p5,al,aa,ag,rs,q+1,S+aAb W.δ.size f.width m,fts.take pos,by rw[bp],a4,(be.weak oM (AG _)).arena ac a5,bf,a6,by rw[bp] at a7;exact a7,a8.trans ab,bg,BB bc (DH oM _),ah.1,ah.2,oM,.inr (.inl ⟨rfl,by have:=aq.big;omega⟩)⟩)
    ·have bv:W5.α.room=W3.α.room:=ak.room
     have ao:W5.δ.size=W3.δ.size:=ak.size
     have ap:W5.α.gs.Perm (g::g2::W.α.gs):=b7.trans au
     have a9:=aq.trans ak
     have bc:=aRq (S:=S) (pos:=pos) (q:=q) (m:=m) hp hS rfl
     have be:Ev W W5 (aAb W.δ.size f.width (pos+m)+(S+aAb W.δ.size f.width m)) (S+aAb W.δ.size f.width m):=a9.weak oM oM
     have bf:aBv W.live W W5:=b4.trans (ay.sub fun e he=>ab.mem_iff.2 (aCx he))
     have bg:aCt W5.δ.disk W.δ.size f.width o once (fts.take pos) rs:=b5.keep (live0:=W.live) fun x hx=>ay x ((aGk ab x).2 hx)
     have ah:(q+1-1)*c≤f.count∧(0<f.count→(q+1-1)*c<f.count):=by
      rw[DK]
      by_cases cm:m=0
      ·have:q=0:=by omega
       subst this;simp
      ·have:q*c<f.count:=by omega
       exact⟨EJ this,fun _=>this⟩
     repeat(first|(refine sv ?_;intros)|refine G.draw (id:=5) [(4,.quiet),(9,.quiet),(10,.quiet),(15,.quiet),(16,.quiet)] (h:= ?_)|refine cq hD ?_|refine cq hA ?_|refine cq hL ?_|refine cq hSz ?_)
     have aw:=aDm ba W5.α b6 ae.ar g2 (g::W.α.gs) (ap.trans (CQ _ _ _))
     refine Go.SL.Lv.call (hc:=aw.2) (h:= ?_)
     rintro _ _ ⟨am,α8,rfl,a1,a2,ac,rfl⟩
     try dsimp only[AA,AB]
     have a3:Wc bd ba bs {W5 with α:=α8} ai am aj:=⟨ae.dev,a1,ae.sp,ae.nn,ae.live⟩
     have ax:=aDn bw bd ba bs {W5 with α:=α8} ai am aj a3 bx f fts g W.α.gs a2 (pos+m) bq b2 (e8.move ao)
     refine Go.SL.Lv.call (hc:=ax.2) (h:= ?_)
     rintro _ _ ⟨an,α9,cw,rfl,rfl,a4,a5,a6,cz⟩
     try dsimp only[AA,AB]
     (refine Go.SL.Lv.nil (Hr:=[[(bz,row [pv bw,.int .i64 o.c0,.int .i64 o.c1,.int .i64 o.c2,.int .i64 o.c3,.int .i64 o.c4,.bool once,.slice p5 (rs.map (·.1)).length al,.int .i64 aa.c0,.int .i64 aa.c1,.int .i64 aa.c2,.int .i64 aa.c3,.int .i64 aa.c4,.bool ag] 200)],aAi bw bd ba bs,ai,an,aj,av]) Tryz.results179 (hR:= ?_);exact⟨ai,an,aj,_,av,p5,al,aa,ag,rs,q+1,S+aAb W.δ.size f.width m,fts.take pos,by rw[bp],a4,(be.weak oM (AG _)).arena ac a5,bf,a6,by rw[bp] at a7;exact a7,a8.trans ab,bg,BB bc (DH oM _),ah.1,ah.2,oM,.inr (.inr ⟨rfl,fun e=>bh (aq.fault e)⟩)⟩)
   ·repeat(first|(refine sv ?_;intros)|refine G.draw (id:=5) [(4,.quiet),(9,.quiet),(10,.quiet),(15,.quiet),(16,.quiet)] (h:= ?_)|refine cq hD ?_|refine cq hA ?_|refine cq hL ?_|refine cq hSz ?_)
    refine R.call (hct:=ci) (h:= ?_)
    rintro _ _ ⟨ai,b6,aj,W5,av,ek,p5,al,aa,ag,fr,rfl,ae,ak,ay,b7,el,a7,⟨rfl,f5,out,rfl,a8,bh,em,bu,c5,c6⟩|⟨rfl,rfl,dl,a8⟩|⟨rfl,rfl,bh,a8⟩⟩
    try dsimp only[AA,AB]
    ·have bv:W5.α.room=W3.α.room:=ak.room
     have ao:W5.δ.size=W3.δ.size:=ak.size
     have ap:W5.α.gs.Perm (g::g2::W.α.gs):=b7.trans au
     have a9:=aq.trans ak
     have bc:=aRq (S:=S) (pos:=pos) (q:=q) (m:=m) hp hS rfl
     have be:Ev W W5 (aAb W.δ.size f.width (pos+m)+(S+aAb W.δ.size f.width m)) (S+aAb W.δ.size f.width m):=a9.weak oM oM
     have bf:aBv W.live W W5:=b4.trans (ay.sub fun e he=>ab.mem_iff.2 (aCx he))
     have bg:aCt W5.δ.disk W.δ.size f.width o once (fts.take pos) rs:=b5.keep (live0:=W.live) fun x hx=>ay x ((aGk ab x).2 hx)
     have ah:(q+1-1)*c≤f.count∧(0<f.count→(q+1-1)*c<f.count):=by
      rw[DK]
      by_cases cm:m=0
      ·have:q=0:=by omega
       subst this;simp
      ·have:q*c<f.count:=by omega
       exact⟨EJ this,fun _=>this⟩
     have en:f5.blocks≤aAb W.δ.size f.width m:=by rw[bu.blk,bh];exact aAm oM
     have hts:fts.take pos++cv=fts.take (pos+m):=by rw[b9,List.take_add]
     have ep:rs=[]∨(fts.take pos≠[]∧cv≠[]):=by
      by_cases eh:q=0
      ·left;exact EF.1 oM
      ·right
       have f0:0<q*c:=Nat.mul_pos oM oM
       constructor
       ·intro e
        have:=congrArg List.length e
        rw[BN,dy,AV] at this
        omega
       ·intro e
        rw[e,AV] at cg;omega
     have dm:aCt W5.δ.disk W.δ.size f.width o once (fts.take (pos+m)) (rs++[(f5,out)]):=by rw[←hts];exact bg.more bh bu c5 c6 ep
     have dp:W5.live.Perm (aAz ((rs++[(f5,out)]).map (·.1)) W.live):=by
      rw[a8,AX,List.map_singleton,aIm];exact aCw ab
     have dq:Vec 42 4 p5 (rs++[(f5,out)]).length al (aAj ((rs++[(f5,out)]).map (·.1))) av:=by simpa using a7
     have dr:(rs.map (·.1)++[f5]).length=(rs++[(f5,out)]).length:=by simp
     have eo:((rs++[(f5,out)]).map (·.1.count)).sum≤pos+m:=by simp;omega
     have ds:((rs++[(f5,out)]).map (·.1.blocks)).sum≤S+aAb W.δ.size f.width m:=by simp;omega
     rw[dr]
     repeat(first|(refine sv ?_;intros)|refine G.draw (id:=5) [(4,.quiet),(9,.quiet),(10,.quiet),(15,.quiet),(16,.quiet)] (h:= ?_)|refine cq hD ?_|refine cq hA ?_|refine cq hL ?_|refine cq hSz ?_)
     refine Dn.round ⟨q+1,pos+m,S+aAb W.δ.size f.width m,m,rs++[(f5,out)],ai,b6,aj,bq,b2,av,ek,W5,p5,al,aa,ag⟩ ⟨by simp[hq],?_,.inr ?_,bc,eo,ds,ae,be,bf,ap,dp,dm,e8.move ao,dq,el⟩ oD
     ·dsimp only
      have:(q+1)*c=q*c+c:=BG _ _
      omega
     ·dsimp only
      rw[DK];omega
    ·have bv:W5.α.room=W3.α.room:=ak.room
     have ao:W5.δ.size=W3.δ.size:=ak.size
     have ap:W5.α.gs.Perm (g::g2::W.α.gs):=b7.trans au
     have a9:=aq.trans ak
     have bc:=aRq (S:=S) (pos:=pos) (q:=q) (m:=m) hp hS rfl
     have be:Ev W W5 (aAb W.δ.size f.width (pos+m)+(S+aAb W.δ.size f.width m)) (S+aAb W.δ.size f.width m):=a9.weak oM oM
     have bf:aBv W.live W W5:=b4.trans (ay.sub fun e he=>ab.mem_iff.2 (aCx he))
     have bg:aCt W5.δ.disk W.δ.size f.width o once (fts.take pos) rs:=b5.keep (live0:=W.live) fun x hx=>ay x ((aGk ab x).2 hx)
     have ah:(q+1-1)*c≤f.count∧(0<f.count→(q+1-1)*c<f.count):=by
      rw[DK]
      by_cases cm:m=0
      ·have:q=0:=by omega
       subst this;simp
      ·have:q*c<f.count:=by omega
       exact⟨EJ this,fun _=>this⟩
     repeat(first|(refine sv ?_;intros)|refine G.draw (id:=5) [(4,.quiet),(9,.quiet),(10,.quiet),(15,.quiet),(16,.quiet)] (h:= ?_)|refine cq hD ?_|refine cq hA ?_|refine cq hL ?_|refine cq hSz ?_)
     have aw:=aDm ba W5.α b6 ae.ar g2 (g::W.α.gs) (ap.trans (CQ _ _ _))
     refine Go.SL.Lv.call (hc:=aw.2) (h:= ?_)
     rintro _ _ ⟨am,α8,rfl,a1,a2,ac,rfl⟩
     try dsimp only[AA,AB]
     have a3:Wc bd ba bs {W5 with α:=α8} ai am aj:=⟨ae.dev,a1,ae.sp,ae.nn,ae.live⟩
     have ax:=aDn bw bd ba bs {W5 with α:=α8} ai am aj a3 bx f fts g W.α.gs a2 (pos+m) bq b2 (e8.move ao)
     refine Go.SL.Lv.call (hc:=ax.2) (h:= ?_)
     rintro _ _ ⟨an,α9,cw,rfl,rfl,a4,a5,a6,cz⟩
     try dsimp only[AA,AB]
     (refine Go.SL.Lv.nil (Hr:=[[(bz,row [pv bw,.int .i64 o.c0,.int .i64 o.c1,.int .i64 o.c2,.int .i64 o.c3,.int .i64 o.c4,.bool once,.slice p5 (rs.map (·.1)).length al,.int .i64 aa.c0,.int .i64 aa.c1,.int .i64 aa.c2,.int .i64 aa.c3,.int .i64 aa.c4,.bool ag] 200)],aAi bw bd ba bs,ai,an,aj,av]) Tryz.results179 (hR:= ?_);exact⟨ai,an,aj,_,av,p5,al,aa,ag,rs,q+1,S+aAb W.δ.size f.width m,fts.take pos,by rw[bp],a4,(be.weak oM (AG _)).arena ac a5,bf,a6,by rw[bp] at a7;exact a7,a8.trans ab,bg,BB bc (DH oM _),ah.1,ah.2,oM,.inr (.inl ⟨rfl,by have:=aq.big;omega⟩)⟩)
    ·have bv:W5.α.room=W3.α.room:=ak.room
     have ao:W5.δ.size=W3.δ.size:=ak.size
     have ap:W5.α.gs.Perm (g::g2::W.α.gs):=b7.trans au
     have a9:=aq.trans ak
     have bc:=aRq (S:=S) (pos:=pos) (q:=q) (m:=m) hp hS rfl
     have be:Ev W W5 (aAb W.δ.size f.width (pos+m)+(S+aAb W.δ.size f.width m)) (S+aAb W.δ.size f.width m):=a9.weak oM oM
     have bf:aBv W.live W W5:=b4.trans (ay.sub fun e he=>ab.mem_iff.2 (aCx he))
     have bg:aCt W5.δ.disk W.δ.size f.width o once (fts.take pos) rs:=b5.keep (live0:=W.live) fun x hx=>ay x ((aGk ab x).2 hx)
     have ah:(q+1-1)*c≤f.count∧(0<f.count→(q+1-1)*c<f.count):=by
      rw[DK]
      by_cases cm:m=0
      ·have:q=0:=by omega
       subst this;simp
      ·have:q*c<f.count:=by omega
       exact⟨EJ this,fun _=>this⟩
     repeat(first|(refine sv ?_;intros)|refine G.draw (id:=5) [(4,.quiet),(9,.quiet),(10,.quiet),(15,.quiet),(16,.quiet)] (h:= ?_)|refine cq hD ?_|refine cq hA ?_|refine cq hL ?_|refine cq hSz ?_)
     have aw:=aDm ba W5.α b6 ae.ar g2 (g::W.α.gs) (ap.trans (CQ _ _ _))
     refine Go.SL.Lv.call (hc:=aw.2) (h:= ?_)
     rintro _ _ ⟨am,α8,rfl,a1,a2,ac,rfl⟩
     try dsimp only[AA,AB]
     have a3:Wc bd ba bs {W5 with α:=α8} ai am aj:=⟨ae.dev,a1,ae.sp,ae.nn,ae.live⟩
     have ax:=aDn bw bd ba bs {W5 with α:=α8} ai am aj a3 bx f fts g W.α.gs a2 (pos+m) bq b2 (e8.move ao)
     refine Go.SL.Lv.call (hc:=ax.2) (h:= ?_)
     rintro _ _ ⟨an,α9,cw,rfl,rfl,a4,a5,a6,cz⟩
     try dsimp only[AA,AB]
     (refine Go.SL.Lv.nil (Hr:=[[(bz,row [pv bw,.int .i64 o.c0,.int .i64 o.c1,.int .i64 o.c2,.int .i64 o.c3,.int .i64 o.c4,.bool once,.slice p5 (rs.map (·.1)).length al,.int .i64 aa.c0,.int .i64 aa.c1,.int .i64 aa.c2,.int .i64 aa.c3,.int .i64 aa.c4,.bool ag] 200)],aAi bw bd ba bs,ai,an,aj,av]) Tryz.results179 (hR:= ?_);exact⟨ai,an,aj,_,av,p5,al,aa,ag,rs,q+1,S+aAb W.δ.size f.width m,fts.take pos,by rw[bp],a4,(be.weak oM (AG _)).arena ac a5,bf,a6,by rw[bp] at a7;exact a7,a8.trans ab,bg,BB bc (DH oM _),ah.1,ah.2,oM,.inr (.inr ⟨rfl,fun e=>bh (aq.fault e)⟩)⟩)
 ·repeat(first|(refine sv ?_;intros)|refine G.draw (id:=5) [(4,.quiet),(9,.quiet),(10,.quiet),(15,.quiet),(16,.quiet)] (h:= ?_)|refine cq hD ?_|refine cq hA ?_|refine cq hL ?_|refine cq hSz ?_)
  have fp:aAb W.δ.size f.width pos≤aAb W.δ.size f.width (pos+m):=aAm oM
  have fq:aAb W.δ.size f.width (pos+m)≤aAb W.δ.size f.width f.count:=aAm oM
  have ak:Ev W W3 (aAb W.δ.size f.width f.count+S) S:=(hE.trans ea).weak oM oM
  have aw:=aDm ba W3.α dc az.ar g2 W.α.gs e7
  have ax:=aJe bx bq e8
  refine Go.SL.Lv.call (hc:=aw.2) (h:= ?_)
  rintro _ _ ⟨et,α4,rfl,ft,fu,de,rfl⟩
  try dsimp only[AA,AB]
  refine Go.SL.Lv.call (hc:=ax.2) (h:= ?_)
  rintro _ _ ⟨rfl,rfl⟩
  try dsimp only[AA,AB]
  (refine Go.SL.Lv.nil (Hr:=[[(bz,row [pv bw,.int .i64 o.c0,.int .i64 o.c1,.int .i64 o.c2,.int .i64 o.c3,.int .i64 o.c4,.bool once,.slice p1 rs.length bo,.int .i64 ad.c0,.int .i64 ad.c1,.int .i64 ad.c2,.int .i64 ad.c3,.int .i64 ad.c4,.bool a0] 200)],aAi bw bd ba bs,b1,et,bk,cu]) Tryz.results179 (hR:= ?_);exact⟨b1,et,bk,{W3 with α:=α4},cu,p1,bo,ad,a0,rs,q,S,fts.take pos,rfl,⟨az.dev,ft,az.sp,az.nn,az.live⟩,{ak with room:=de.trans ak.room},fun x hx=>by rw[dd];exact hK x hx,fu,hV,by rw[ec];exact da,by rw[dd];exact hR,oM,db.1,db.2,oM,.inr (.inr ⟨rfl,fun e=>e6 (hE.fault e)⟩)⟩)
end Go.Proofs.YtaofijjjheiknaaGreat
