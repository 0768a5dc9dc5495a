/-
  Parts of the proof, put together (6). No condition.
-/
import Derived.Test.YtammjnjpheobaaaGreatL5
set_option linter.unusedVariables false
set_option linter.unusedSimpArgs false
set_option linter.unnecessarySimpa false
set_option maxHeartbeats 4000000
open Go.IntKind renaming wrap→AH
open Go.Proofs.Tryz renaming prog→AC
open Int renaming natCast_add→CY
open List renaming cons_append→AA,nil_append→AB,getElem?_eq_getElem→AE,length_append→AF,mem_cons_self→AI,mem_cons_of_mem→AJ,getD_eq_getElem?_getD→AN,mem_append→AO,append_nil→AQ,append_assoc→AR,length_nil→AU,map_append→AV,flatten_cons→AW,length_map→AX,mem_singleton→AY,map_cons→A0,take_of_length_le→A4,flatten_nil→A8,length_take→BK,take_add_one→BN,getElem_mem→B4,filter_append→B8,pairwise_append→CG,sum_cons→DB,length_eq_zero_iff→D7
open List.Pairwise renaming nil→DU
open List.Perm renaming append_left→BJ,swap→CO,append_right→CZ
open Nat renaming reduceAdd→AD,le_refl→AG,zero_le→AS,mul_le_mul_right→A5,le_trans→BA,succ_mul→BD,div_le_div_right→BY,le_div_iff_mul_le→CI,div_le_self→CU,add_le_add_right→DD,add_sub_cancel→DH,div_mul_le_self→DK,add_mul→DM,le_mul_of_pos_left→DR,div_le_iff_le_mul_add_pred→DS,le_of_lt→EB
namespace Go.Proofs.YtammjnjpheobaaaGreat
open Go.SL Go.Spc Go.Tup Go.Srt
theorem aNa (i j:Nat):((i:Int)+(j:Int)).fdiv (2^min (Int.toNat 1) IntKind.u64.bits)=(((i+j)/2:Nat):Int):=by
 have e0:(2:Int)^min (Int.toNat 1) IntKind.u64.bits=2:=by decide
 rw[e0,Int.fdiv_eq_ediv_of_nonneg _ (by decide)]
 omega
theorem Srt.rot {o:T5} {ts us:List T5} {a m b c d:Nat} (h1:a≤m) (h2:m≤b) (hb:b≤ts.length) (hl:us.length=ts.length) (hr:∀k,at_ us k=aHm ts a m b k)
  (hc:∀i j,a≤i→i<m→m≤j→j<b→ltO o (at_ ts j) (at_ ts i)=true) (hca:c≤a) (hbd:b≤d):Srt o ts us c d:=
 ⟨bKp (aBv o) h1 h2 hb hl hr hc,(Ins.rot h1 h2 hl hr).wide hca hbd⟩
theorem Srt.trans {o:T5} {ts us vs:List T5} {a b:Nat} (h:Srt o ts us a b) (h2:Srt o us vs a b):Srt o ts vs a b:=⟨h.1.trans h2.1,h.2.trans h2.2⟩
theorem Srt.wide {o:T5} {ts us:List T5} {a b c d:Nat} (h:Srt o ts us a b) (h1:c≤a) (h2:b≤d):Srt o ts us c d:=⟨h.1,h.2.wide h1 h2⟩
theorem Srt.refl (o:T5) (ts:List T5) (a b:Nat):Srt o ts ts a b:=⟨Go.Srt.Sp.refl _ _,Ins.refl _ _ _⟩
section
variable (bx:Nat) (g:Gr) (k n:Nat) (o:T5) (rest:List Int)
theorem aOf:∀(d:Nat) (ts:List T5) (h:aKa g k n ts) (a m b:Nat),b-a≤d→a<m→m<b→b≤n→Seg (ltO o) ts a m→Seg (ltO o) ts m b→
  Ct AC 198 [aPr bx,.int .i64 (a:Int),.int .i64 (m:Int),.int .i64 (b:Int)] (aEt bx g k o ts rest) fun v H'=>
   v= .tuple #[]∧∃ts',H'=aEt bx g k o ts' rest∧aKa g k n ts'∧Srt o ts ts' a b∧Seg (ltO o) ts' a b:=by
 intro d
 induction d with
 |zero=>intro ts h a m b hd ham hmb;omega
 |succ d ih=>
 intro ts h a m b hd ham hmb hb s1 s2
 have hnn:=h.n_le
 have hsw:=aBv o
 have hlen:=h.len
 have e1:AH .i64 ((m:Int)-(a:Int))=((m-a:Nat):Int):=by rw[aAd (by omega)];omega
 have e2:AH .i64 ((b:Int)-(m:Int))=((b-m:Nat):Int):=by rw[aAd (by omega)];omega
 refine Ct.intro Tryz.func198 rfl Tryz.ntmps198 (nle rfl) fun w0=> ?_;dsimp only[aAa,AD]
 by_cases hm1:m=a+1
 ·clear ih
  repeat(first|(refine st ?_;intros)|(refine cq hL ?_))
  refine G.loop (X:=Nat×Nat) (fun x=>m≤x.1∧x.1≤x.2∧x.2≤b∧(x.1=m∨ltO o (at_ ts (x.1-1)) (at_ ts a)=true)∧(x.2=b∨ltO o (at_ ts x.2) (at_ ts a)=false))
   (fun x=>[(9,.int .i64 (x.2:Int)),(8,.int .i64 (x.1:Int)),(0,aPr bx),(1,.int .i64 (a:Int))])
   (fun x=>aEt bx g k o ts rest) (fun x=>x.2-x.1) (m,b) ⟨AG _,EB hmb,AG _,.inl rfl,.inl rfl⟩ (body:= ?_)
  rintro⟨i,j⟩ ⟨hmi,hij,hjb,f1,f2⟩
  dsimp only at hmi hij hjb f1 f2⊢
  by_cases hlt:i<j
  ·have hsh:=aNa i j
   generalize hh:(i+j)/2=c at hsh
   have hh1:i≤c∧c<j:=by omega
   have e3:AH .i64 ((i:Int)+(j:Int))=((i+j:Nat):Int):=by rw[←CY];exact aAd (by omega)
   have hL:=aRs h bx o rest c a (by omega) (by omega)
   cases hl:ltO o (at_ ts c) (at_ ts a) with
   |true=>
    rw[hl] at hL
    repeat(first|(refine st ?_;intros)|(refine cq hL ?_))
    exact Dn.round (c+1,j) ⟨by omega,by omega,hjb,.inr (by simpa using hl),f2⟩ (by dsimp only;omega)
   |false=>
    rw[hl] at hL
    repeat(first|(refine st ?_;intros)|(refine cq hL ?_))
    exact Dn.round (i,c) ⟨hmi,by omega,by omega,f1,.inr hl⟩ (by dsimp only;omega)
  ·obtain rfl:i=j:=by omega
   repeat(first|(refine st ?_;intros)|(refine cq hL ?_))
   refine G.loop (X:=Nat×List T5) (fun x=>a≤x.1∧x.1+1≤i∧aKa g k n x.2∧∀q,at_ x.2 q=aHm ts a (a+1) (x.1+1) q)
    (fun x=>[(11,.int .i64 (x.1:Int)),(8,.int .i64 (i:Int)),(0,aPr bx)])
    (fun x=>aEt bx g k o x.2 rest) (fun x=>i-x.1) (a,ts) ⟨AG _,by dsimp only;omega,h,fun q=>(aZf ts (.inr rfl) (by omega) (AG _) q).symm⟩ (body:= ?_)
   rintro⟨c,us⟩ ⟨hac,hci,hok,hq⟩
   dsimp only at hac hci hok hq⊢
   have e3:AH .i64 ((i:Int)-1)=((i-1:Nat):Int):=by rw[aAd (by omega)];omega
   by_cases hc:c<i-1
   ·have hS:=aRt hok bx o rest c (c+1) (by omega) (by omega) (by omega)
    have e4:AH .i64 ((c:Int)+1)=((c+1:Nat):Int):=by rw[aAd (by omega)];omega
    repeat(first|(refine st ?_;intros)|(refine cq hL ?_))
    refine R.invoke (hct:=hS) (h:= ?_)
    rintro _ _ ⟨rfl,rfl⟩
    try dsimp only[AA,AB]
    repeat(first|(refine st ?_;intros)|(refine cq hL ?_))
    exact Dn.round (c+1,sw us c (c+1)) ⟨by omega,by dsimp only;omega,hok.sw (by omega) (by omega),rot_up hac (by rw[hok.len];omega) hq⟩ (by dsimp only;omega)
   ·obtain rfl:i=c+1:=by omega
    obtain⟨g1,g2⟩:=ins1 hsw hm1 hmi hjb s2 f1 f2 (by rw[hm1];exact hq)
    repeat(first|(refine st ?_;intros)|(refine cq hL ?_))
    (refine Dn.post (Hr:=aEt bx g k o us rest) Tryz.results198 (hR:= ?_);exact⟨rfl,us,rfl,hok,Srt.rot (by omega) hmi (by omega) (by rw[hok.len,hlen]) (by rw[hm1];exact hq) g1 (AG _) hjb,g2⟩)
 by_cases hb1:b=m+1
 ·clear ih
  repeat(first|(refine st ?_;intros)|(refine cq hL ?_))
  refine G.loop (X:=Nat×Nat) (fun x=>a≤x.1∧x.1≤x.2∧x.2≤m∧(x.1=a∨ltO o (at_ ts m) (at_ ts (x.1-1))=false)∧(x.2=m∨ltO o (at_ ts m) (at_ ts x.2)=true))
   (fun x=>[(13,.int .i64 (x.2:Int)),(12,.int .i64 (x.1:Int)),(0,aPr bx),(2,.int .i64 (m:Int))])
   (fun x=>aEt bx g k o ts rest) (fun x=>x.2-x.1) (a,m) ⟨AG _,EB ham,AG _,.inl rfl,.inl rfl⟩ (body:= ?_)
  rintro⟨i,j⟩ ⟨hmi,hij,hjb,f1,f2⟩
  dsimp only at hmi hij hjb f1 f2⊢
  by_cases hlt:i<j
  ·have hsh:=aNa i j
   generalize hh:(i+j)/2=c at hsh
   have hh1:i≤c∧c<j:=by omega
   have e3:AH .i64 ((i:Int)+(j:Int))=((i+j:Nat):Int):=by rw[←CY];exact aAd (by omega)
   have hL:=aRs h bx o rest m c (by omega) (by omega)
   cases hl:ltO o (at_ ts m) (at_ ts c) with
   |true=>
    rw[hl] at hL
    repeat(first|(refine st ?_;intros)|(refine cq hL ?_))
    exact Dn.round (i,c) ⟨hmi,by omega,by omega,f1,.inr hl⟩ (by dsimp only;omega)
   |false=>
    rw[hl] at hL
    repeat(first|(refine st ?_;intros)|(refine cq hL ?_))
    exact Dn.round (c+1,j) ⟨by omega,by omega,hjb,.inr (by simpa using hl),f2⟩ (by dsimp only;omega)
  ·obtain rfl:i=j:=by omega
   repeat(first|(refine st ?_;intros)|(refine cq hL ?_))
   refine G.loop (X:=Nat×List T5) (fun x=>i≤x.1∧x.1≤m∧aKa g k n x.2∧∀q,at_ x.2 q=aHm ts x.1 m (m+1) q)
    (fun x=>[(15,.int .i64 (x.1:Int)),(12,.int .i64 (i:Int)),(0,aPr bx)])
    (fun x=>aEt bx g k o x.2 rest) (fun x=>x.1) (m,ts) ⟨by dsimp only;omega,AG _,h,fun q=>(aZf ts (.inl rfl) (AG _) (by omega) q).symm⟩ (body:= ?_)
   rintro⟨c,us⟩ ⟨hic,hcm,hok,hq⟩
   dsimp only at hic hcm hok hq⊢
   by_cases hc:i<c
   ·have hS:=aRt hok bx o rest c (c-1) (by omega) (by omega) (by omega)
    have e4:AH .i64 ((c:Int)-1)=((c-1:Nat):Int):=by rw[aAd (by omega)];omega
    repeat(first|(refine st ?_;intros)|(refine cq hL ?_))
    refine R.invoke (hct:=hS) (h:= ?_)
    rintro _ _ ⟨rfl,rfl⟩
    try dsimp only[AA,AB]
    repeat(first|(refine st ?_;intros)|(refine cq hL ?_))
    exact Dn.round (c-1,sw us c (c-1)) ⟨by dsimp only;omega,by dsimp only;omega,hok.sw (by omega) (by omega),bIj (by omega) hcm (by rw[hok.len];omega) hq⟩ (by dsimp only;omega)
   ·obtain rfl:c=i:=by omega
    obtain⟨g1,g2⟩:=ins2 hsw hb1 hmi hjb s1 f1 f2 (by rw[hb1];exact hq)
    repeat(first|(refine st ?_;intros)|(refine cq hL ?_))
    (refine Dn.post (Hr:=aEt bx g k o us rest) Tryz.results198 (hR:= ?_);exact⟨rfl,us,rfl,hok,Srt.rot hjb (by omega) (by omega) (by rw[hok.len,hlen]) (by rw[hb1];exact hq) g1 hmi (AG _),g2⟩)
 have e3:AH .i64 ((a:Int)+(b:Int))=((a+b:Nat):Int):=by rw[←CY];exact aAd (by omega)
 have hsh:=aNa a b
 generalize hmid:(a+b)/2=mid at hsh
 have e4:AH .i64 ((mid:Int)+(m:Int))=((mid+m:Nat):Int):=by rw[←CY];exact aAd (by omega)
 obtain⟨low,hlow⟩:∃low,low=if mid<m then mid+m-b else a:=⟨_,rfl⟩
 obtain⟨high,hhigh⟩:∃high,high=if mid<m then mid else m:=⟨_,rfl⟩
 have hN:mid+m≤a+b∨mid<m:=by omega
 have e5:AH .i64 (((mid+m:Nat):Int)-1)=((mid+m-1:Nat):Int):=by rw[aAd (by omega)];omega
 have hlohi:low≤high:=by split at hlow<;>split at hhigh<;>omega
 have hhim:high≤m:=by split at hhigh<;>omega
 repeat(first|(refine stn ?_;intros)|(refine cq hL ?_))
 apply G.seq
 repeat(first|(refine stn ?_;intros)|(refine cq hL ?_))
 apply G.seq
 repeat(first|(refine stn ?_;intros)|(refine cq hL ?_))
 apply G.seq
 repeat(first|(refine stn ?_;intros)|(refine cq hL ?_))
 apply G.seq
 repeat(first|(refine stn ?_;intros)|(refine cq hL ?_))
 apply G.seq
 repeat(first|(refine stn ?_;intros)|(refine cq hL ?_))
 apply G.seq
 repeat(first|(refine stn ?_;intros)|(refine cq hL ?_))
 apply G.seq
 repeat(first|(refine stn ?_;intros)|(refine cq hL ?_))
 refine G.cut (D':=[]) (X:=Unit) (fun _=>True) (fun _=>[(18,.int .i64 (low:Int)),(19,.int .i64 (high:Int)),(17,.int .i64 ((mid+m:Nat):Int)),(16,.int .i64 (mid:Int)),(0,aPr bx),(1,.int .i64 (a:Int)),(2,.int .i64 (m:Int)),(3,.int .i64 (b:Int))])
  (fun _=>aEt bx g k o ts rest) ?_ ?_
 ·by_cases hmm:mid<m
  ·rw[if_pos hmm] at hlow hhigh
   have e6:AH .i64 (((mid+m:Nat):Int)-(b:Int))=(low:Int):=by rw[aAd (by omega)];omega
   subst hhigh
   repeat(first|(refine st ?_;intros)|(refine cq hL ?_))
   exact Dn.meet () trivial
  ·rw[if_neg hmm] at hlow hhigh
   subst hlow hhigh
   repeat(first|(refine st ?_;intros)|(refine cq hL ?_))
   exact Dn.meet () trivial
 rintro⟨⟩-
 repeat(first|(refine st ?_;intros)|(refine cq hL ?_))
 refine G.loop (X:=Nat×Nat) (fun x=>low≤x.1∧x.1≤x.2∧x.2≤high∧(x.1=low∨ltO o (at_ ts (mid+m-x.1)) (at_ ts (x.1-1))=false)∧(x.2=high∨ltO o (at_ ts (mid+m-1-x.2)) (at_ ts x.2)=true))
  (fun x=>[(20,.int .i64 ((mid+m-1:Nat):Int)),(18,.int .i64 (x.1:Int)),(19,.int .i64 (x.2:Int)),(17,.int .i64 ((mid+m:Nat):Int)),(16,.int .i64 (mid:Int)),(0,aPr bx),(1,.int .i64 (a:Int)),(2,.int .i64 (m:Int)),(3,.int .i64 (b:Int))])
  (fun _=>aEt bx g k o ts rest) (fun x=>x.2-x.1) (low,high) ⟨AG _,hlohi,AG _,.inl rfl,.inl rfl⟩ (body:= ?_)
 rintro⟨s,r⟩ ⟨hls,hsr,hrh,f1,f2⟩
 dsimp only at hls hsr hrh f1 f2⊢
 by_cases hlt:s<r
 ·have hsh2:=aNa s r
  generalize hh:(s+r)/2=c at hsh2
  have hh1:s≤c∧c<r:=by omega
  have hpc:mid+m-1-c<b:=by split at hlow<;>omega
  have e6:AH .i64 ((s:Int)+(r:Int))=((s+r:Nat):Int):=by rw[←CY];exact aAd (by omega)
  have e7:AH .i64 (((mid+m-1:Nat):Int)-(c:Int))=((mid+m-1-c:Nat):Int):=by rw[aAd (by omega)];omega
  have hL:=aRs h bx o rest (mid+m-1-c) c (by omega) (by omega)
  cases hl:ltO o (at_ ts (mid+m-1-c)) (at_ ts c) with
  |true=>
   rw[hl] at hL
   repeat(first|(refine st ?_;intros)|(refine cq hL ?_))
   exact Dn.round (s,c) ⟨hls,by omega,by omega,f1,.inr hl⟩ (by dsimp only;omega)
  |false=>
   rw[hl] at hL
   repeat(first|(refine st ?_;intros)|(refine cq hL ?_))
   exact Dn.round (c+1,r) ⟨by omega,by omega,hrh,.inr (by dsimp only;rw[show mid+m-(c+1)=mid+m-1-c by omega];simpa using hl),f2⟩ (by dsimp only;omega)
 obtain rfl:s=r:=by omega
 obtain⟨e,he⟩:∃e,e=mid+m-s:=⟨_,rfl⟩
 have hfin:=fun (us:List T5) hr=>bDz hsw (l1:=us) ham hmb s1 s2 hmid.symm rfl he hlow hhigh hls hrh f1 f2 hr
 have hbd:a≤s∧s≤m∧m≤e∧e≤b∧s≤mid∧mid≤e∧mid-s=e-m:=by split at hlow<;>split at hhigh<;>omega
 clear f1 f2 hls hrh hlt hlow hhigh hlohi hhim
 obtain⟨b1,b2,b3,b4,b5,b6,b7⟩:=hbd
 have e6:AH .i64 (((mid+m:Nat):Int)-(s:Int))=(e:Int):=by rw[aAd (by omega)];omega
 repeat(first|(refine stn ?_;intros)|(refine cq hL ?_))
 apply G.seq
 repeat(first|(refine stn ?_;intros)|(refine cq hL ?_))
 apply G.seq
 repeat(first|(refine stn ?_;intros)|(refine cq hL ?_))
 apply G.seq
 repeat(first|(refine stn ?_;intros)|(refine cq hL ?_))
 refine G.cut (D':=[]) (X:=List T5) (fun us=>aKa g k n us∧Srt o ts us a b∧∀q,at_ us q=aHm ts s m e q) (fun _=>[(22,.int .i64 (e:Int)),(18,.int .i64 (s:Int)),(16,.int .i64 (mid:Int)),(0,aPr bx),(1,.int .i64 (a:Int)),(3,.int .i64 (b:Int))])
  (fun us=>aEt bx g k o us rest) ?_ ?_
 ·by_cases hr:s<m
  ·by_cases hr2:m<e
   ·have hR:=bEd bx g k n o rest ts h s m e hr hr2 (by omega)
    repeat(first|(refine st ?_;intros)|(refine cq hL ?_))
    refine R.call (hct:=hR) (h:= ?_)
    rintro _ _ ⟨rfl,us,rfl,hok,hq⟩
    try dsimp only[AA,AB]
    repeat(first|(refine st ?_;intros)|(refine cq hL ?_))
    exact Dn.meet us ⟨hok,Srt.rot b2 b3 (by omega) (by rw[hok.len,hlen]) hq (hfin us hq).1 b1 b4,hq⟩
   ·repeat(first|(refine st ?_;intros)|(refine cq hL ?_))
    exact Dn.meet ts ⟨h,Srt.refl _ _ _ _,fun q=>(aZf ts (.inr (by omega)) b2 b3 q).symm⟩
  ·repeat(first|(refine st ?_;intros)|(refine cq hL ?_))
   exact Dn.meet ts ⟨h,Srt.refl _ _ _ _,fun q=>(aZf ts (.inl (by omega)) b2 b3 q).symm⟩
 rintro us ⟨hok,hsrt,hq⟩
 obtain⟨-,⟨q1,q2,q3,q4⟩,hx,-⟩:=hfin us hq
 clear hfin
 refine G.cut (D':=[]) (X:=List T5) (fun vs=>aKa g k n vs∧Srt o us vs a mid∧Seg (ltO o) vs a mid) (fun _=>[(22,.int .i64 (e:Int)),(18,.int .i64 (s:Int)),(16,.int .i64 (mid:Int)),(0,aPr bx),(1,.int .i64 (a:Int)),(3,.int .i64 (b:Int))])
  (fun vs=>aEt bx g k o vs rest) ?_ ?_
 ·by_cases hr:a<s
  ·by_cases hr2:s<mid
   ·have hR:=ih us hok a s mid (by omega) hr hr2 (by omega) q1 q2
    repeat(first|(refine st ?_;intros)|(refine cq hL ?_))
    refine R.call (hct:=hR) (h:= ?_)
    rintro _ _ ⟨rfl,vs,rfl,hok2,hs2,hg2⟩
    try dsimp only[AA,AB]
    repeat(first|(refine st ?_;intros)|(refine cq hL ?_))
    exact Dn.meet vs ⟨hok2,hs2,hg2⟩
   ·obtain rfl:s=mid:=by omega
    repeat(first|(refine st ?_;intros)|(refine cq hL ?_))
    exact Dn.meet us ⟨hok,Srt.refl _ _ _ _,q1⟩
  ·obtain rfl:a=s:=by omega
   repeat(first|(refine st ?_;intros)|(refine cq hL ?_))
   exact Dn.meet us ⟨hok,Srt.refl _ _ _ _,q2⟩
 rintro vs ⟨hok2,hs2,hg2⟩
 have q3':=q3.out hs2.2 (.inr (AG _))
 have q4':=q4.out hs2.2 (.inr (by omega))
 have hx2:=bBe hx hs2.2
 have hs3:=hsrt.trans (hs2.wide (AG _) (by omega))
 by_cases hr:mid<e
 ·by_cases hr2:e<b
  ·have hR:=ih vs hok2 mid e b (by omega) hr hr2 (by omega) q3' q4'
   repeat(first|(refine st ?_;intros)|(refine cq hL ?_))
   refine R.call (hct:=hR) (h:= ?_)
   rintro _ _ ⟨rfl,ws,rfl,hok4,hs4,hg4⟩
   try dsimp only[AA,AB]
   repeat(first|(refine st ?_;intros)|(refine cq hL ?_))
   (refine Dn.postEnd (Hr:=aEt bx g k o ws rest) Tryz.results198 (hR:= ?_);exact⟨rfl,ws,rfl,hok4,hs3.trans (hs4.wide (by omega) (AG _)),aRr (hg2.out hs4.2 (.inl (AG _))) hg4 (aWy hx2 hs4.2)⟩)
  ·obtain rfl:e=b:=by omega
   repeat(first|(refine st ?_;intros)|(refine cq hL ?_))
   (refine Dn.postEnd (Hr:=aEt bx g k o vs rest) Tryz.results198 (hR:= ?_);exact⟨rfl,vs,rfl,hok2,hs3,aRr hg2 q3' hx2⟩)
 ·obtain rfl:mid=e:=by omega
  repeat(first|(refine st ?_;intros)|(refine cq hL ?_))
  (refine Dn.postEnd (Hr:=aEt bx g k o vs rest) Tryz.results198 (hR:= ?_);exact⟨rfl,vs,rfl,hok2,hs3,aRr hg2 q4' hx2⟩)
end
end Go.Proofs.YtammjnjpheobaaaGreat
namespace Go.Srt
variable {α:Type} {lt:α→α→Bool} [Inhabited α]
def Blk (lt:α→α→Bool) (l:List α) (bs n:Nat):Prop:=∀q,Seg lt l (q*bs) (min ((q+1)*bs) n)
def Mid (lt:α→α→Bool) (l:List α) (bs n q:Nat):Prop:=(∀p,p<q→Seg lt l (p*(2*bs)) ((p+1)*(2*bs)))∧∀p,2*q≤p→Seg lt l (p*bs) (min ((p+1)*bs) n)
theorem Seg.sub {l:List α} {a b c d:Nat} (h:Seg lt l a b) (h1:a≤c) (h2:d≤b):Seg lt l c d:=fun i j i1 i2 i3=>h i j (by omega) i2 (by omega)
theorem Seg.none {l:List α} {a b:Nat} (h:b≤a):Seg lt l a b:=fun i j i1 i2 i3=>by omega
theorem mul2 (q bs:Nat):(2*q)*bs=q*(2*bs):=by rw[Nat.mul_comm 2 q,Nat.mul_assoc]
theorem bEe {l:List α} {bs n:Nat} (h:Blk lt l bs n):Mid lt l bs n 0:=⟨fun p hp=>by omega,fun p _=>h p⟩
theorem mid_get {l:List α} {bs n q a:Nat} (h:Mid lt l bs n q) (ha:a=q*(2*bs)) (hn:a+bs≤n):Seg lt l a (a+bs)∧Seg lt l (a+bs) (min (a+2*bs) n):=by
 have h1:=h.2 (2*q) (Nat.le_refl _)
 have h2:=h.2 (2*q+1) (by omega)
 have e:=mul2 q bs
 rw[Nat.succ_mul (2*q),e,←ha] at h1
 rw[Nat.succ_mul (2*q+1),Nat.succ_mul (2*q),e,←ha] at h2
 refine⟨h1.sub (Nat.le_refl _) (by omega),h2.sub (Nat.le_refl _) (by omega)⟩
theorem bIk {l l':List α} {bs n q a b:Nat} (h:Mid lt l bs n q) (ha:a=q*(2*bs)) (hb:b=a+2*bs) (hi:Ins l l' a b) (hs:Seg lt l' a b):Mid lt l' bs n (q+1):=by
 refine⟨fun p hp=> ?_,fun p hp=> ?_⟩
 ·by_cases hpq:p=q
  ·subst hpq
   rw[Nat.succ_mul p,←ha,←hb];exact hs
  ·refine(h.1 p (by omega)).out hi (.inl ?_)
   rw[ha];exact Nat.mul_le_mul_right _ (by omega)
 ·refine(h.2 p (by omega)).out hi (.inr ?_)
  have:=Nat.mul_le_mul_right bs hp
  rw[show 2*(q+1)=2*q+1+1 by omega,Nat.succ_mul (2*q+1),Nat.succ_mul (2*q),mul2,←ha] at this
  omega
theorem bEf {l l':List α} {bs n q a:Nat} (h:Mid lt l bs n q) (ha:a=q*(2*bs)) (hn:n<a+2*bs) (hi:Ins l l' a n) (hs:Seg lt l' a n):Blk lt l' (2*bs) n:=by
 intro p
 by_cases hpq:p<q
 ·refine(h.1 p hpq).out hi (.inl ?_)|>.sub (Nat.le_refl _) (by omega)
  rw[ha];exact Nat.mul_le_mul_right _ (by omega)
 ·by_cases hp:p=q
  ·subst hp
   rw[←ha];exact hs.sub (Nat.le_refl _) (by omega)
  ·refine Seg.none ?_
   have:=Nat.mul_le_mul_right (2*bs) (show q+1≤p by omega)
   rw[Nat.succ_mul q,←ha] at this
   omega
theorem bIl {l:List α} {bs n q a:Nat} (h:Mid lt l bs n q) (ha:a=q*(2*bs)) (hn:n≤a+bs) (hb:0<bs):Blk lt l (2*bs) n:=by
 refine bEf h ha (by omega) (Ins.refl _ _ _) ?_
 have h1:=h.2 (2*q) (Nat.le_refl _)
 have e:=mul2 q bs
 rw[Nat.succ_mul (2*q),e,←ha] at h1
 exact h1.sub (Nat.le_refl _) (by omega)
theorem bMn {l:List α} {bs n:Nat} (h:Blk lt l bs n) (hb:n≤bs):Seg lt l 0 n:=by
 have:=h 0
 exact this.sub (by omega) (by omega)
theorem bEg {l l':List α} {n c a:Nat} (h:∀p,p<c→Seg lt l (p*20) ((p+1)*20)) (ha:a=c*20) (hn:n<a+20) (hi:Ins l l' a n) (hs:Seg lt l' a n):Blk lt l' 20 n:=by
 intro p
 by_cases hpq:p<c
 ·exact(h p hpq).out hi (.inl (by omega))|>.sub (Nat.le_refl _) (by omega)
 ·by_cases hp:p=c
  ·subst hp
   rw[←ha];exact hs.sub (Nat.le_refl _) (by omega)
  ·exact Seg.none (by omega)
end Go.Srt
namespace Go.Proofs.YtammjnjpheobaaaGreat
open Go.SL Go.Spc Go.Tup Go.Srt
section
variable (bx:Nat) (g:Gr) (k n:Nat) (o:T5) (rest:List Int)
theorem bEh (ts:List T5) (h:aKa g k n ts):
  Ct AC 192 [aPr bx,.int .i64 (n:Int)] (aEt bx g k o ts rest) fun v H'=>
   v= .tuple #[]∧∃ts',H'=aEt bx g k o ts' rest∧aKa g k n ts'∧Srt o ts ts' 0 n∧Seg (ltO o) ts' 0 n:=by
 have hnn:=h.n_le
 refine Ct.intro Tryz.func192 rfl Tryz.ntmps192 (nle rfl) fun w0=> ?_;dsimp only[aAa,AD]
 repeat(refine st ?_;intros)
 refine G.loop (X:=Nat×List T5) (fun x=>x.1*20≤n∧aKa g k n x.2∧Srt o ts x.2 0 n∧∀p,p<x.1→Seg (ltO o) x.2 (p*20) ((p+1)*20))
  (fun x=>[(6,.int .i64 ((x.1*20+20:Nat):Int)),(5,.int .i64 ((x.1*20:Nat):Int)),(4,.int .i64 20),(0,aPr bx),(1,.int .i64 (n:Int))])
  (fun x=>aEt bx g k o x.2 rest) (fun x=>n+20-x.1*20) (0,ts) ⟨by dsimp only;omega,h,Srt.refl _ _ _ _,fun p hp=>by dsimp only at hp;omega⟩ (body:= ?_)
 rintro⟨c,us⟩ ⟨hc,hok,hs,hq⟩
 dsimp only at hc hok hs hq⊢
 generalize ha:c*20=a at hc⊢
 by_cases hb:a+20≤n
 ·have hI:=aQl bx g k n o rest us hok a (a+20) (by omega) hb
  have e1:AH .i64 (((a+20:Nat):Int)+20)=(((c+1)*20+20:Nat):Int):=by rw[aAd (by omega)];omega
  repeat(refine st ?_;intros)
  refine R.call (hct:=hI) (h:= ?_)
  rintro _ _ ⟨rfl,vs,rfl,hok2,hs2,hg2⟩
  try dsimp only[AA,AB]
  repeat(refine st ?_;intros)
  have e2:a+20=(c+1)*20:=by omega
  refine Dn.round (c+1,vs) ⟨by dsimp only;omega,hok2,hs.trans (hs2.wide (by omega) hb),fun p hp=> ?_⟩ (by dsimp only;omega) ?_ (by repeat(first|exact aAo.nil|(apply aAo.cons;·(repeat(first|exact aAn.here|apply aAn.there|exact aAn.nil)))))
  ·by_cases hpc:p=c
   ·subst hpc;rw[show(p+1)*20=a+20 by omega,ha];exact hg2
   ·exact(hq p (by dsimp only at hp;omega)).out hs2.2 (.inl (by dsimp only at hp;omega))
  ·rw[e2];exact(by repeat(first|exact trivial|refine⟨rfl,?_⟩))
 have hI:=aQl bx g k n o rest us hok a n hc (AG _)
 repeat(refine st ?_;intros)
 refine R.call (hct:=hI) (h:= ?_)
 rintro _ _ ⟨rfl,vs,rfl,hok2,hs2,hg2⟩
 try dsimp only[AA,AB]
 have hB:=bEg hq ha.symm (by omega) hs2.2 hg2
 have hs3:=hs.trans (hs2.wide (AS _) (AG _))
 clear hs2 hg2 hs hok hq hI
 repeat(refine st ?_;intros)
 refine G.loop (X:=Nat×List T5) (fun x=>0<x.1∧x.1≤2000000020∧aKa g k n x.2∧Srt o ts x.2 0 n∧Blk (ltO o) x.2 x.1 n)
  (fun x=>[(4,.int .i64 (x.1:Int)),(0,aPr bx),(1,.int .i64 (n:Int))])
  (fun x=>aEt bx g k o x.2 rest) (fun x=>n-x.1) (20,vs) ⟨by dsimp only;omega,by dsimp only;omega,hok2,hs3,hB⟩ (body:= ?_)
 clear hB hs3 hok2 vs us
 rintro⟨bs,us⟩ ⟨hb0,hb1,hok,hs,hB⟩
 dsimp only at hb0 hb1 hok hs hB⊢
 by_cases hbn:bs<n
 ·have e1:AH .i64 (2*(bs:Int))=((2*bs:Nat):Int):=by rw[aAd (by omega)];omega
  have e1':AH .i64 ((bs:Int)*2)=((2*bs:Nat):Int):=by rw[aAd (by omega)];omega
  repeat(refine st ?_;intros)
  refine G.loop (X:=Nat×List T5) (fun x=>x.1*(2*bs)≤n∧aKa g k n x.2∧Srt o ts x.2 0 n∧Mid (ltO o) x.2 bs n x.1)
   (fun x=>[(6,.int .i64 ((x.1*(2*bs)+2*bs:Nat):Int)),(5,.int .i64 ((x.1*(2*bs):Nat):Int)),(4,.int .i64 (bs:Int)),(0,aPr bx),(1,.int .i64 (n:Int))])
   (fun x=>aEt bx g k o x.2 rest) (fun x=>n+2*bs-x.1*(2*bs)) (0,us) ⟨by simp,hok,hs,bEe hB⟩ (by simp only[Nat.zero_mul,Nat.zero_add];exact(by repeat(first|exact trivial|refine⟨rfl,?_⟩))) (by repeat(first|exact aAo.nil|(apply aAo.cons;·(repeat(first|exact aAn.here|apply aAn.there|exact aAn.nil))))) ?_
  clear hok hs hB
  rintro⟨q,us⟩ ⟨hqn,hok,hs,hM⟩
  dsimp only at hqn hok hs hM⊢
  have hq1:(q+1)*(2*bs)=q*(2*bs)+2*bs:=BD _ _
  generalize ha:q*(2*bs)=a at hqn hq1⊢
  have e2:AH .i64 ((a:Int)+(bs:Int))=((a+bs:Nat):Int):=by rw[←CY];exact aAd (by omega)
  by_cases hb:a+2*bs≤n
  ·obtain⟨g1,g2⟩:=mid_get hM ha.symm (by omega)
   rw[Nat.min_eq_left hb] at g2
   have hI:=aOf bx g k n o rest (2*bs) us hok a (a+bs) (a+2*bs) (by omega) (by omega) (by omega) hb g1 g2
   have e3:AH .i64 (((a+2*bs:Nat):Int)+((2*bs:Nat):Int))=(((q+1)*(2*bs)+2*bs:Nat):Int):=by rw[aAd (by omega)];omega
   repeat(refine st ?_;intros)
   refine R.call (hct:=hI) (h:= ?_)
   rintro _ _ ⟨rfl,vs,rfl,hok2,hs2,hg2⟩
   try dsimp only[AA,AB]
   repeat(refine st ?_;intros)
   refine Dn.round (q+1,vs) ⟨by dsimp only;omega,hok2,hs.trans (hs2.wide (by omega) hb),bIk hM ha.symm rfl hs2.2 hg2⟩ (by dsimp only;omega) ?_ (by repeat(first|exact aAo.nil|(apply aAo.cons;·(repeat(first|exact aAn.here|apply aAn.there|exact aAn.nil)))))
   rw[←hq1];exact(by repeat(first|exact trivial|refine⟨rfl,?_⟩))
  ·by_cases hm:a+bs<n
   ·obtain⟨g1,g2⟩:=mid_get hM ha.symm (by omega)
    have hI:=aOf bx g k n o rest n us hok a (a+bs) n (by omega) (by omega) (by omega) (AG _) g1 (g2.sub (AG _) (by omega))
    repeat(refine st ?_;intros)
    refine R.call (hct:=hI) (h:= ?_)
    rintro _ _ ⟨rfl,vs,rfl,hok2,hs2,hg2⟩
    try dsimp only[AA,AB]
    repeat(refine st ?_;intros)
    exact Dn.round (2*bs,vs) ⟨by dsimp only;omega,by dsimp only;omega,hok2,hs.trans (hs2.wide (by omega) (AG _)),bEf hM ha.symm (by omega) hs2.2 hg2⟩ (by dsimp only;omega)
   ·repeat(refine st ?_;intros)
    exact Dn.round (2*bs,us) ⟨by dsimp only;omega,by dsimp only;omega,hok,hs,bIl hM ha.symm (by omega) hb0⟩ (by dsimp only;omega)
 ·repeat(refine st ?_;intros)
  (refine Dn.postEnd (Hr:=aEt bx g k o us rest) Tryz.results192 (hR:= ?_);exact⟨rfl,us,rfl,hok,hs,bMn hB (by omega)⟩)
theorem bEi (ts:List T5) (h:aKa g k n ts):
  Ct AC 180 [aPr bx] (aEt bx g k o ts rest) fun v H'=>
   v= .tuple #[]∧∃ts',H'=aEt bx g k o ts' rest∧aKa g k n ts'∧Go.Srt.Sp (ltO o) false ts ts'∧Sd (ltO o) false ts':=by
 have hN:=bMm bx g k o ts rest
 rw[h.len] at hN
 have hS:=bEh bx g k n o rest ts h
 refine Ct.intro Tryz.func180 rfl Tryz.ntmps180 (nle rfl) fun w0=> ?_;dsimp only[aAa,AD]
 repeat(first|(refine st ?_;intros)|(refine cq hN ?_))
 refine R.call (hct:=hS) (h:= ?_)
 rintro _ _ ⟨rfl,vs,rfl,hok2,hs2,hg2⟩
 try dsimp only[AA,AB]
 repeat(first|(refine st ?_;intros)|(refine cq hN ?_))
 (refine Dn.postEnd (Hr:=aEt bx g k o vs rest) Tryz.results180 (hR:= ?_);exact⟨rfl,vs,rfl,hok2,hs2.1,seg_sd (by rw[hok2.len];exact hg2)⟩)
end
def aLe (o:T5) (once:Bool) (ps:List T5) (t:T5):List T5:=
 match once,ps.getLast? with
 |true,some x=>if aJo o x t=0 then ps else ps++[t]
 |_,_=>ps++[t]
def bEj (ps:List T5) (last:T5) (some:Bool):Prop:=match ps.getLast? with
 |none=>some=false
 | .some x=>some=true∧last=x
theorem bEj.put (ps:List T5) (t:T5):bEj (ps++[t]) t true:=by simp[bEj]
theorem aNb (o:T5) (once:Bool) (ps:List T5) (t:T5):ps.length≤(aLe o once ps t).length∧(aLe o once ps t).length≤ps.length+1:=by
 unfold aLe
 split
 ·split<;>simp
 ·simp
def aHx (bw:Nat) (o:T5) (once:Bool) (p:Option Addr) (n cap:Nat) (last:T5) (some:Bool):List Value:=
 [pv bw,.int .i64 o.c0,.int .i64 o.c1,.int .i64 o.c2,.int .i64 o.c3,.int .i64 o.c4,.bool once,.slice p n cap,
  .int .i64 last.c0,.int .i64 last.c1,.int .i64 last.c2,.int .i64 last.c3,.int .i64 last.c4,.bool some]
def aPk (bz bw:Nat) (o:T5) (once:Bool) (p:Option Addr) (n cap:Nat) (last:T5) (some:Bool):aAc:=[(bz,row (aHx bw o once p n cap last some) 186)]
theorem bKs (bz bw bd ba bs:Nat) (W:Wk) (cd ca cs:aAc) (h:Wc bd ba bs W cd ca cs) (bx first nb k bound:Nat) (g:Gr) (ps:List T5) (cx cb:aAc) (hw:aIa bw bx W first nb k bound g ps cx cb) (Gs:List Gr) (hg:W.α.gs.Perm (g::Gs))
  (Lv:List Ext) (hl:aDm first nb Lv W.live) (hlt:ps.length<bound) (t:T5) (ht:okT k t) (hac:W.δ.acts≤1000000000000)
  (o:T5) (once:Bool) (p:Option Addr) (n cap:Nat) (last:T5) (some:Bool) (hls:bEj ps last some):
  Ct AC 181 [pv bz,pv bx,tv t] [aPk bz bw o once p n cap last some,aAh bw bd ba bs,cd,ca,cs,cx,cb] fun v H'=>
   ∃cd' ca' cs' W' cx' cb' last' some',H'=[aPk bz bw o once p n cap last' some',aAh bw bd ba bs,cd',ca',cs',cx',cb']∧Wc bd ba bs W' cd' ca' cs'∧
    Ev W W' ((aLe o once ps t).length/aAf W.δ.size k-ps.length/aAf W.δ.size k) 0∧aBr Lv W W'∧
    ((v= .int .i64 0∧W'.α=W.α∧W'.σ=W.σ∧W'.live=W.live∧aIa bw bx W' first nb k bound g (aLe o once ps t) cx' cb'∧bEj (aLe o once ps t) last' some')∨
     (v= .int .i64 6∧W.δ.fault=0∧W'.δ=W.δ.failed∧W'.α.gs.Perm Gs∧W'.live.Perm Lv∧aDy bx cx')):=by
 have hP:=bId bw bd ba bs W cd ca cs h bx first nb k bound g ps cx cb hw Gs hg Lv hl hlt t ht hac
 have hC:=aLn last.c0 last.c1 last.c2 last.c3 last.c4 t.c0 t.c1 t.c2 t.c3 t.c4 o.c0 o.c1 o.c2 o.c3 o.c4
 have hCc:aJo ⟨o.c0,o.c1,o.c2,o.c3,o.c4⟩ ⟨last.c0,last.c1,last.c2,last.c3,last.c4⟩ ⟨t.c0,t.c1,t.c2,t.c3,t.c4⟩=aJo o last t:=rfl
 rw[hCc] at hC
 generalize hcm:aJo o last t=cm at hC
 unfold aPk aHx
 by_cases hsk:once=true∧some=true∧cm=0
 ·obtain⟨rfl,rfl,rfl⟩:=hsk
  have hem:aLe o true ps t=ps:=by
   unfold aLe;unfold bEj at hls
   cases hgl:ps.getLast? with
   |none=>rw[hgl] at hls;simp at hls
   |some x=>
    rw[hgl] at hls
    obtain⟨_,rfl⟩:=hls
    simp[hcm]
  rw[hem]
  refine Ct.intro Tryz.func181 rfl Tryz.ntmps181 (nle rfl) fun w0=> ?_;dsimp only[aAa,AD]
  repeat(first|(refine st ?_;intros)|refine G.draw (id:=1) [(20,.quiet)] (h:= ?_)|(refine cq hC ?_))
  (refine Dn.post (Hr:=[[(bz,row [pv bw,.int .i64 o.c0,.int .i64 o.c1,.int .i64 o.c2,.int .i64 o.c3,.int .i64 o.c4,.bool true,.slice p n cap,.int .i64 last.c0,.int .i64 last.c1,.int .i64 last.c2,.int .i64 last.c3,.int .i64 last.c4,.bool true] 186)],aAh bw bd ba bs,cd,ca,cs,cx,cb]) Tryz.results181 (hR:= ?_);exact⟨cd,ca,cs,W,cx,cb,last,true,rfl,h,(Ev.refl W).weak (AS _) (AG _),aBr.refl _ _,.inl ⟨rfl,rfl,rfl,rfl,hw,hls⟩⟩)
 have hem:aLe o once ps t=ps++[t]:=by
  unfold aLe;unfold bEj at hls
  cases once with
  |false=>rfl
  |true=>
   cases hgl:ps.getLast? with
   |none=>rfl
   |some x=>
    rw[hgl] at hls
    obtain⟨rfl,rfl⟩:=hls
    have:¬cm=0:=fun e=>hsk ⟨rfl,rfl,e⟩
    simp[hcm,this]
 rw[hem]
 have hPl:=bEj.put ps t
 rw[AF,List.length_singleton]
 have htv:tv t= .agg #[.int .i64 t.c0,.int .i64 t.c1,.int .i64 t.c2,.int .i64 t.c3,.int .i64 t.c4]:=rfl
 rw[htv] at hP⊢
 cases ho:once with
 |false=>
  refine Ct.intro Tryz.func181 rfl Tryz.ntmps181 (nle rfl) fun w0=> ?_;dsimp only[aAa,AD]
  repeat(first|(refine st ?_;intros)|refine G.draw (id:=1) [(20,.quiet)] (h:= ?_)|(refine cq hC ?_))
  refine R.call (hct:=hP) (h:= ?_)
  rintro _ _ ⟨cd',ca',cs',W',cx',cb',rfl,hW,hE,hK,hor⟩
  try dsimp only[AA,AB]
  repeat(first|(refine st ?_;intros)|refine G.draw (id:=1) [(20,.quiet)] (h:= ?_)|(refine cq hC ?_))
  (refine Dn.post (Hr:=[[(bz,row [pv bw,.int .i64 o.c0,.int .i64 o.c1,.int .i64 o.c2,.int .i64 o.c3,.int .i64 o.c4,.bool false,.slice p n cap,.int .i64 t.c0,.int .i64 t.c1,.int .i64 t.c2,.int .i64 t.c3,.int .i64 t.c4,.bool true] 186)],aAh bw bd ba bs,cd',ca',cs',cx',cb']) Tryz.results181 (hR:= ?_);exact⟨cd',ca',cs',W',cx',cb',t,true,rfl,hW,hE,hK,hor.imp (fun ⟨a1,a2,a3,a4,a5⟩=>⟨a1,a2,a3,a4,a5,hPl⟩) id⟩)
 |true=>
  cases hs:some with
  |false=>
   refine Ct.intro Tryz.func181 rfl Tryz.ntmps181 (nle rfl) fun w0=> ?_;dsimp only[aAa,AD]
   repeat(first|(refine st ?_;intros)|refine G.draw (id:=1) [(20,.quiet)] (h:= ?_)|(refine cq hC ?_))
   refine R.call (hct:=hP) (h:= ?_)
   rintro _ _ ⟨cd',ca',cs',W',cx',cb',rfl,hW,hE,hK,hor⟩
   try dsimp only[AA,AB]
   repeat(first|(refine st ?_;intros)|refine G.draw (id:=1) [(20,.quiet)] (h:= ?_)|(refine cq hC ?_))
   (refine Dn.post (Hr:=[[(bz,row [pv bw,.int .i64 o.c0,.int .i64 o.c1,.int .i64 o.c2,.int .i64 o.c3,.int .i64 o.c4,.bool true,.slice p n cap,.int .i64 t.c0,.int .i64 t.c1,.int .i64 t.c2,.int .i64 t.c3,.int .i64 t.c4,.bool true] 186)],aAh bw bd ba bs,cd',ca',cs',cx',cb']) Tryz.results181 (hR:= ?_);exact⟨cd',ca',cs',W',cx',cb',t,true,rfl,hW,hE,hK,hor.imp (fun ⟨a1,a2,a3,a4,a5⟩=>⟨a1,a2,a3,a4,a5,hPl⟩) id⟩)
  |true=>
   have hne:¬cm=0:=fun e=>hsk ⟨ho,hs,e⟩
   refine Ct.intro Tryz.func181 rfl Tryz.ntmps181 (nle rfl) fun w0=> ?_;dsimp only[aAa,AD]
   repeat(first|(refine st ?_;intros)|refine G.draw (id:=1) [(20,.quiet)] (h:= ?_)|(refine cq hC ?_))
   refine R.call (hct:=hP) (h:= ?_)
   rintro _ _ ⟨cd',ca',cs',W',cx',cb',rfl,hW,hE,hK,hor⟩
   try dsimp only[AA,AB]
   repeat(first|(refine st ?_;intros)|refine G.draw (id:=1) [(20,.quiet)] (h:= ?_)|(refine cq hC ?_))
   (refine Dn.post (Hr:=[[(bz,row [pv bw,.int .i64 o.c0,.int .i64 o.c1,.int .i64 o.c2,.int .i64 o.c3,.int .i64 o.c4,.bool true,.slice p n cap,.int .i64 t.c0,.int .i64 t.c1,.int .i64 t.c2,.int .i64 t.c3,.int .i64 t.c4,.bool true] 186)],aAh bw bd ba bs,cd',ca',cs',cx',cb']) Tryz.results181 (hR:= ?_);exact⟨cd',ca',cs',W',cx',cb',t,true,rfl,hW,hE,hK,hor.imp (fun ⟨a1,a2,a3,a4,a5⟩=>⟨a1,a2,a3,a4,a5,hPl⟩) id⟩)
theorem bEk (o x t:T5):eqv (ltO o) x t=true↔aJo o x t=0:=by
 rw[aCv]
 have:=aDu o x t
 simp only[ltO,decide_eq_false_iff_not]
 omega
structure Em (o:T5) (once:Bool) (l ps rest:List T5):Prop where
 sd:Sd (ltO o) once ps
 sp:Go.Srt.Sp (ltO o) once l (ps++rest)
 le:∀x∈ps,∀y∈rest,ltO o y x=false
theorem Em.start {o:T5} {once:Bool} {l rest:List T5} (h:Go.Srt.Sp (ltO o) once l rest):Em o once l [] rest:=⟨DU,h,fun x hx=>by simp at hx⟩
theorem Em.turn {o:T5} {once:Bool} {l ps rest rest':List T5} (h:Em o once l ps rest) (hs:Go.Srt.Sp (ltO o) once rest rest') (hm:∀y∈rest',y∈rest):Em o once l ps rest':=
 ⟨h.sd,h.sp.trans (Go.Srt.Sp.app (Go.Srt.Sp.refl _ _) hs),fun x hx y hy=>h.le x hx y (hm y hy)⟩
theorem Em.fin {o:T5} {once:Bool} {l ps:List T5} (h:Em o once l ps []):Sd (ltO o) once ps∧Go.Srt.Sp (ltO o) once l ps:=⟨h.sd,by have:=h.sp;rwa[AQ] at this⟩
theorem bMo {o:T5} {ps rest:List T5} {z t:T5} (hz:z∈ps) (he:eqv (ltO o) z t=true):Go.Srt.Sp (ltO o) true (ps++t::rest) (ps++rest):=fun c=>by
 rw[B8,B8,List.filter_cons]
 cases hct:eqv (ltO o) c t with
 |false=>simp
 |true=>
  have h1:eqv (ltO o) c z=true:=aKp (aBv o) hct (aMz he)
  have h2:z∈ps.filter (eqv (ltO o) c):=List.mem_filter.2 ⟨hz,h1⟩
  simp only[aGu,if_true]
  cases hf:ps.filter (eqv (ltO o) c) with
  |nil=>rw[hf] at h2;simp at h2
  |cons a b=>simp
theorem Em.step {o:T5} {once:Bool} {l ps rest:List T5} {t:T5} (h:Em o once l ps (t::rest)) (hmin:∀y∈rest,ltO o y t=false):Em o once l (aLe o once ps t) rest:=by
 have hsw:=aBv o
 have hput:(once=true→∀z,ps.getLast? =some z→aJo o z t≠0)→Em o once l (ps++[t]) rest:=by
  intro hz
  refine⟨?_,by have:=h.sp;simpa using this,?_⟩
  ·unfold Sd
   rw[CG]
   refine⟨h.sd,List.pairwise_singleton _ _,?_⟩
   intro x hx y hy
   simp only[AY] at hy
   subst hy
   have hyx:=h.le x hx y AI
   cases once with
   |false=>simpa using hyx
   |true=>
    rw[if_pos rfl]
    obtain⟨qs,z,rfl⟩:∃qs z,ps=qs++[z]:=by
     rcases List.eq_nil_or_concat ps with rfl|⟨qs,z,rfl⟩
     ·simp at hx
     ·exact⟨qs,z,by simp⟩
    have hne:=hz rfl z (by simp)
    have hyz:=h.le z (by simp) y AI
    have hzy:ltO o z y=true:=by
     cases hc:ltO o z y with
     |true=>rfl
     |false=>exact absurd ((bEk o z y).1 (aCv.2 ⟨hc,hyz⟩)) hne
    rcases AO.1 hx with hx|hx
    ·have hsd:=h.sd
     unfold Sd at hsd
     rw[CG] at hsd
     have hxz:=hsd.2.2 x hx z (by simp)
     rw[if_pos rfl] at hxz
     cases hc:ltO o x y with
     |true=>rfl
     |false=>
      have:=hsw.ntrans _ _ _ hc hyz
      rw[hxz] at this;cases this
    ·simp only[AY] at hx
     subst hx;exact hzy
  ·intro x hx y hy
   rcases AO.1 hx with hx|hx
   ·exact h.le x hx y (AJ _ hy)
   ·simp only[AY] at hx
    subst hx;exact hmin y hy
 unfold aLe
 cases once with
 |false=>exact hput (fun e=>by cases e)
 |true=>
  cases hgl:ps.getLast? with
  |none=>exact hput (fun _ z hz=>by rw[hgl] at hz;cases hz)
  |some z=>
   dsimp only
   split
   ·rename_i hc
    exact⟨h.sd,h.sp.trans (bMo (List.mem_of_getLast? hgl) ((bEk o z t).2 hc)),fun x hx y hy=>h.le x hx y (AJ _ hy)⟩
   ·rename_i hc
    exact hput (fun _ z' hz'=>by rw[hgl] at hz';cases hz';exact hc)
def aGj (o:T5) (once:Bool) (l:List T5):List T5:=l.foldl (aLe o once) []
theorem bBf {o:T5} {once:Bool} {l:List T5} {i:Nat} (h:i<l.length):aGj o once (l.take (i+1))=aLe o once (aGj o once (l.take i)) l[i]:=by
 unfold aGj
 rw[BN,List.foldl_append];simp[h]
theorem aUn (o:T5) (once:Bool):∀(l:List T5),(aGj o once l).length≤l.length:=by
 intro l
 have:∀(l ps:List T5),(l.foldl (aLe o once) ps).length≤ps.length+l.length:=by
  intro l
  induction l with
  |nil=>intro ps;simp
  |cons t l ih=>
   intro ps
   have h1:=ih (aLe o once ps t)
   have h2:=(aNb o once ps t).2
   simp only[List.foldl_cons,List.length_cons];omega
 have h:=this l []
 simpa[aGj] using h
theorem Em.all {o:T5} {once:Bool} {l:List T5}:∀{m ps:List T5},Em o once l ps m→Sd (ltO o) false m→Em o once l (m.foldl (aLe o once) ps) []
 |[],_,h,_=>h
 |t::m,ps,h,hs=>by
  unfold Sd at hs
  rw[List.foldl_cons]
  refine Em.all (ps:=aLe o once ps t) (m:=m) (h.step fun y hy=> ?_) (List.Pairwise.of_cons hs)
  have:=List.rel_of_pairwise_cons hs hy
  simpa using this
theorem bEl {o:T5} {once:Bool} {l m:List T5} (h:Go.Srt.Sp (ltO o) false l m) (hs:Sd (ltO o) false m):Sd (ltO o) once (aGj o once m)∧Go.Srt.Sp (ltO o) once l (aGj o once m):=
 (Em.all (Em.start h.once_of) hs).fin
structure FillX where
 i:Nat
 cd:aAc
 c1:aAc
 cx:aAc
 cb:aAc
 W:Wk
 ws:List Int
theorem bIm {i c k n:Nat} (hk:1≤k) (hc:c=n/k):(i+1)*k≤n↔i<c:=by
 subst hc
 rw[←CI (by omega)]
 exact⟨fun h=>h,fun h=>h⟩
theorem bMp (bw bd ba bs:Nat) (W:Wk) (cd ca cs:aAc) (h:Wc bd ba bs W cd ca cs) (bx:Nat) (f:Fl) (fts:List T5) (Lv:List Ext) (hfo:aAq W.δ.disk W.δ.size Lv f fts) (hsub:∀e∈Lv,e∈W.live) (g g2:Gr) (Gs:List Gr) (hg:W.α.gs.Perm (g::Gs))
  (hg2:g2∈Gs) (pos:Nat) (hpos:pos≤f.count) (cx cb:aAc) (hr:aGo bw bx W f fts g pos cx cb) (hac:W.δ.acts≤100000000000) (by_ n0:Nat) (o:T5) (ws:List Int) (hws:ws.length=g2.n) (hgn:g2.n≤1000000000):
  Ct AC 162 [pv bx,pv by_] [aAh bw bd ba bs,cd,ca,cs,cx,cb,[(by_,row (aBu g2.bb f.width n0 o) 211)],[(g2.br,row (aAg ws) 158)]] fun v H'=>
   ∃cd' ca' W' cx' cb' ts' ws' m,H'=[aAh bw bd ba bs,cd',ca',cs,cx',cb',[(by_,row (aBu g2.bb f.width m o) 211)],[(g2.br,row (aAg ws') 158)]]∧Wc bd ba bs W' cd' ca' cs∧
    Ev W W' (aAb W.δ.size f.width (pos+m)-aAb W.δ.size f.width pos) 0∧W'.δ.disk=W.δ.disk∧W'.σ=W.σ∧W'.live=W.live∧ws'.length=g2.n∧
    ts'=(fts.drop pos).take m∧ws'.take (m*f.width)=aBo f.width ts'∧
    ((v= .tuple #[.int .i64 (m:Int),.int .i64 0]∧m=min (g2.n/f.width) (f.count-pos)∧W'.α=W.α∧aGo bw bx W' f fts g (pos+m) cx' cb')∨
     (v= .tuple #[.int .i64 (m:Int),.int .i64 6]∧W.δ.fault≠-1∧W'.α.gs.Perm Gs∧aDf bx cx'∧pos+m≤f.count)):=by
 obtain⟨⟨hs1,hs2⟩,hbk,hfr⟩:=h.dev.num
 have hk1:=hfo.w1
 have hk5:=hfo.w2
 have hcnt:=hfo.cnt
 have htl:=hfo.len
 have hp:=aAj hs1 hk1 hk5
 have hgm:g2∈W.α.gs:=hg.mem_iff.2 (AJ _ hg2)
 obtain⟨c1,hc1⟩:=h.ar.open_ hgm
 have h':Wc bd ba bs W cd (c1++[g2.obj]) cs:=⟨h.dev,h.ar.perm hc1.symm,h.sp,h.nn,h.live⟩
 obtain⟨c,hc⟩:∃c,c=g2.n/f.width:=⟨_,rfl⟩
 have hcn:c*f.width≤g2.n:=by rw[hc];exact DK _ _
 have hcc:c≤g2.n:=by rw[hc];exact CU _ _
 rw[←hc]
 have hfit:=fun i=>bIm (i:=i) hk1 hc
 refine Ct.permH (H2:=[aAh bw bd ba bs,cd,c1,[g2.obj],cs,cx,cb,[(by_,row (aBu g2.bb f.width n0 o) 211)],[(g2.br,row (aAg ws) 158)]]) ?_ ?_
 ·unfold aBu Gr.obj
  refine Ct.intro Tryz.func162 rfl Tryz.ntmps162 (nle rfl) fun w0=> ?_;dsimp only[aAa,AD]
  repeat(first|(refine st ?_;intros)|refine G.draw [] (h:= ?_))
  refine G.loop (X:=FillX) (fun x=>x.i≤c∧pos+x.i≤f.count∧Wc bd ba bs x.W x.cd (x.c1++[g2.obj]) cs∧Ev W x.W (aAb W.δ.size f.width (pos+x.i)-aAb W.δ.size f.width pos) 0∧x.W.δ.disk=W.δ.disk∧x.W.σ=W.σ∧x.W.live=W.live∧x.W.α=W.α∧
    aGo bw bx x.W f fts g (pos+x.i) x.cx x.cb∧x.ws.length=g2.n∧x.ws.take (x.i*f.width)=aBo f.width ((fts.drop pos).take x.i))
   (fun _=>[(0,pv bx),(1,pv by_)])
   (fun x=>[aAh bw bd ba bs,x.cd,x.c1,[(g2.bb,row [.slice (some ⟨g2.br,0,none⟩) g2.n g2.n] 161)],cs,x.cx,x.cb,[(by_,row [pv g2.bb,.int .i64 (f.width:Int),.int .i64 (x.i:Int),.int .i64 o.c0,.int .i64 o.c1,.int .i64 o.c2,.int .i64 o.c3,.int .i64 o.c4] 211)],[(g2.br,row (aAg x.ws) 158)]])
   (fun x=>c-x.i) ⟨0,cd,c1,cx,cb,W,ws⟩ ⟨AS _,hpos,h',by simpa using Ev.refl W,rfl,rfl,rfl,rfl,hr,hws,by simp⟩ (body:= ?_)
  rintro⟨i,cd1,c2,cx1,cb1,W2,ws2⟩ ⟨hic,hpi,hW2,hE2,hd2,hσ2,hl2,hα2,hr2,hw2,htk⟩
  dsimp only at hic hpi hW2 hE2 hd2 hσ2 hl2 hα2 hr2 hw2 htk⊢
  have hacts:=hE2.acts
  have hsz:=hE2.size
  have hnof:W2.δ.fault=0→W.δ.fault≠-1:=fun e0 e1=>by have:=hE2.fault e1;omega
  have hdl:aAb W.δ.size f.width (pos+i)≤pos+i:=by
   unfold aAb
   rw[DS (by omega)]
   have:=DR (pos+i) (show 0<aAf W.δ.size f.width by omega)
   omega
  have hkc:(i+1)*f.width≤1000000005:=by
   have h1:(i+1)*f.width=i*f.width+f.width:=BD _ _
   have h2:i*f.width≤c*f.width:=A5 _ hic
   omega
  have e1:AH .i64 ((i:Int)+1)=((i+1:Nat):Int):=by rw[aAd (by omega)];rfl
  have e2:AH .i64 (((i+1:Nat):Int)*(f.width:Int))=(((i+1)*f.width:Nat):Int):=by rw[←Int.natCast_mul];exact aAd (by omega)
  have hfi:=hfit i
  generalize hm1:(i+1)*f.width=m1 at*
  by_cases hin:i<c
  ·have hmn:=hfi.2 hin
   repeat(first|(refine st ?_;intros)|refine G.draw [] (h:= ?_))
   apply R1.join (c1:=c2) (c2:=[(g2.bb,row [.slice (some ⟨g2.br,0,none⟩) g2.n g2.n] 161)])
   ·(repeat(first|exact aAn.here|apply aAn.there))
   ·(repeat(first|exact aAn.here|apply aAn.there))
   by_cases hpc:pos+i<f.count
   ·have hlt:pos+i<fts.length:=by omega
    have hNx:=aJp bw bd ba bs W2 cd1 _ cs hW2 bx f fts Lv (by rw[hd2,hsz];exact hfo) (by rw[hl2];exact hsub) g Gs (by rw[hα2];exact hg) (pos+i) cx1 cb1 hr2 fts[pos+i] (AE hlt) (by omega)
    have htv:tv fts[pos+i]= .agg (aAl fts[pos+i]).toArray:=rfl
    rw[htv] at hNx
    have hgt:fts[pos+i]∈fts:=B4 hlt
    have hokt:=hfo.fit _ hgt
    have htcl:(aAl fts[pos+i]).length=5:=rfl
    have hall:(aAl fts[pos+i]).all Value.oneCell'=true:=rfl
    have hset5:aFi [.int .i64 0,.int .i64 0,.int .i64 0,.int .i64 0,.int .i64 0] 0 (aAl fts[pos+i])=aAl fts[pos+i]:=rfl
    have htake:(fts.drop pos).take (i+1)=(fts.drop pos).take i++[fts[pos+i]]:=by
     rw[BN];simp[hlt]
    have hget:=aLp fts[pos+i]
    have htw:=aZc fts[pos+i] f.width
    have htwl:=aCn fts[pos+i] hk5
    generalize hcl:aAl fts[pos+i]=tc at*
    generalize fts[pos+i]=t at*
    refine R.call (hct:=hNx) (h:= ?_)
    rintro _ _ ⟨cd3,ca3,W3,cx3,cb3,rfl,hW3,hE3,hd3,hs3,hl3,⟨rfl,e6,e9⟩|⟨rfl,e6,e7,e8,e9⟩⟩
    try dsimp only[AA,AB]
    ·obtain⟨c3,hc3⟩:=hW3.ar.open_ (g:=g2) (by rw[e6,hα2];exact hgm)
     unfold Gr.obj at hc3
     apply R.open hc3
     ·(repeat(first|exact aAn.here|apply aAn.there))
     obtain⟨B,hB⟩:∃B:Nat→List Int,∀j,B j=aOa ws2 (i*f.width) ((tw f.width t).take j):=⟨_,fun _=>rfl⟩
     have hiw:i*f.width+f.width=m1:=by rw[←hm1,BD]
     have e3:AH .i64 ((i:Int)*(f.width:Int))=((i*f.width:Nat):Int):=by rw[←Int.natCast_mul];exact aAd (by omega)
     generalize hiwg:i*f.width=iw at*
     have hB0:B 0=ws2:=by rw[hB,List.take_zero,aZb]
     have hBk:B f.width=aOa ws2 iw (tw f.width t):=by rw[hB,A4 (by omega)]
     have hBl:∀j,(B j).length=g2.n:=fun j=>by rw[hB,aFv (by rw[BK,htwl,hw2];omega),hw2]
     repeat(first|(refine st ?_;intros)|refine G.draw [] (h:= ?_))
     rename_i b6
     refine G.loop (X:=Nat) (fun j=>j≤f.width) (fun j=>[(56,.int .i64 (j:Int)),(55,.int .i64 (f.width:Int)),(54,.slice (some ⟨b6,0,none⟩) f.width 5),(0,pv bx),(1,pv by_)])
      (fun j=>[[(b6,row tc 49)],c3,[(g2.bb,row [.slice (some ⟨g2.br,0,none⟩) g2.n g2.n] 161)],aAh bw bd ba bs,cd3,cs,cx3,cb3,[(by_,row [pv g2.bb,.int .i64 (f.width:Int),.int .i64 (i:Int),.int .i64 o.c0,.int .i64 o.c1,.int .i64 o.c2,.int .i64 o.c3,.int .i64 o.c4] 211)],[(g2.br,row (aAg (B j)) 158)]])
      (fun j=>f.width-j) 0 (AS _) (by repeat(first|exact trivial|refine⟨rfl,?_⟩)) (by rw[hB0];exact(by repeat(first|exact aAo.nil|(apply aAo.cons;·(repeat(first|exact aAn.here|apply aAn.there|exact aAn.nil)))))) ?_
     intro j hj
     by_cases hjk:j<f.width
     ·have hgi:=hget j (by omega)
      have hset:(aAg (B j)).set (iw+j) (.int .u64 (wd (t.col j)))=aAg (B (j+1)):=by
       rw[aGr,hB,hB,aTz (htw j hjk hk5) (by rw[htwl,hw2];omega)]
      have hlen:(aAg (B j)).length=g2.n:=by rw[aBt,hBl]
      have e4:AH .i64 ((iw:Int)+(j:Int))=((iw+j:Nat):Int):=by rw[←CY];exact aAd (by omega)
      repeat(first|(refine st ?_;intros)|refine G.draw [] (h:= ?_))
      exact Dn.round (j+1) (by omega) (by omega)
     ·obtain rfl:j=f.width:=by omega
      repeat(first|(refine st ?_;intros)|refine G.draw [] (h:= ?_))
      refine Dn.round ⟨i+1,cd3,c3,cx3,cb3,W3,B f.width⟩ ⟨hin,by dsimp only;omega,⟨hW3.dev,hW3.ar.perm hc3.symm,hW3.sp,hW3.nn,hW3.live⟩,?_,hd3.trans hd2,hs3.trans hσ2,hl3.trans hl2,by rw[e6];exact hα2,by rw[←Nat.add_assoc];exact e9,hBl _,?_⟩ (by dsimp only;omega)
      ·have:=hE2.trans hE3
       rw[hsz] at this
       refine this.weak ?_ (AG _)
       have m1:aAb W.δ.size f.width pos≤aAb W.δ.size f.width (pos+i):=aAk (by omega)
       have m2:aAb W.δ.size f.width (pos+i)≤aAb W.δ.size f.width (pos+i+1):=aAk (by omega)
       dsimp only
       rw[←Nat.add_assoc]
       omega
      ·have:=aOb (buf:=ws2) (ws:=tw f.width t) (n:=iw) (by rw[htwl,hw2];omega)
       dsimp only
       rw[hm1,show m1=iw+(tw f.width t).length by omega,hBk,this,htake,aNv,htk]
       simp[aBo]
    ·repeat(first|(refine st ?_;intros)|refine G.draw [] (h:= ?_))
     (refine Dn.post (Hr:=[aAh bw bd ba bs,cd3,ca3,cs,cx3,cb3,[(by_,row (aBu g2.bb f.width i o) 211)],[(g2.br,row (aAg ws2) 158)]]) Tryz.results162 (hR:= ?_);refine⟨cd3,ca3,W3,cx3,cb3,_,ws2,i,rfl,hW3,?_,hd3.trans hd2,hs3.trans hσ2,hl3.trans hl2,hw2,rfl,htk,.inr ⟨rfl,hnof e6,e8,e9,hpi⟩⟩)
     have:=hE2.trans hE3
     exact{this with acts:=⟨this.acts.1,by rw[e7];exact hE2.acts.2⟩}
   ·have hNe:=aFw bw bx W2 f fts g cx1 cb1 (by rw[show f.count=pos+i by omega];exact hr2)
    have hz:tv T5.zero= .agg (aAl T5.zero).toArray:=rfl
    rw[hz] at hNe
    refine R.call (hct:=hNe) (h:= ?_)
    rintro _ _ ⟨rfl,rfl⟩
    try dsimp only[AA,AB]
    repeat(first|(refine st ?_;intros)|refine G.draw [] (h:= ?_))
    (refine Dn.post (Hr:=[aAh bw bd ba bs,cd1,c2++[(g2.bb,row [.slice (some ⟨g2.br,0,none⟩) g2.n g2.n] 161)],cs,cx1,cb1,[(by_,row (aBu g2.bb f.width i o) 211)],[(g2.br,row (aAg ws2) 158)]]) Tryz.results162 (hR:= ?_);refine⟨cd1,_,W2,cx1,cb1,_,ws2,i,rfl,hW2,hE2,hd2,hσ2,hl2,hw2,rfl,htk,.inl ⟨rfl,by omega,hα2,hr2⟩⟩)
  ·have hmn:¬m1≤g2.n:=fun e=>hin (hfi.1 e)
   obtain rfl:i=c:=by omega
   repeat(first|(refine st ?_;intros)|refine G.draw [] (h:= ?_))
   apply Dn.join (c1:=c2) (c2:=[(g2.bb,row [.slice (some ⟨g2.br,0,none⟩) g2.n g2.n] 161)])
   ·(repeat(first|exact aAn.here|apply aAn.there))
   ·(repeat(first|exact aAn.here|apply aAn.there))
   (refine Dn.post (Hr:=[aAh bw bd ba bs,cd1,c2++[(g2.bb,row [.slice (some ⟨g2.br,0,none⟩) g2.n g2.n] 161)],cs,cx1,cb1,[(by_,row (aBu g2.bb f.width i o) 211)],[(g2.br,row (aAg ws2) 158)]]) Tryz.results162 (hR:= ?_);refine⟨cd1,_,W2,cx1,cb1,_,ws2,i,rfl,hW2,hE2,hd2,hσ2,hl2,hw2,rfl,htk,.inl ⟨rfl,by omega,hα2,hr2⟩⟩)
 ·simp only[AW,A8,AQ,AR]
  refine BJ _ (BJ _ ?_)
  rw[←AR c1]
  exact CZ _ hc1
def aAi (fs:List Fl):List Value:=fs.flatMap fun f=>[.int .i64 (f.first:Int),.int .i64 (f.blocks:Int),.int .i64 (f.width:Int),.int .i64 (f.count:Int)]
theorem aCo (a b:List Fl):aAi (a++b)=aAi a++aAi b:=by simp[aAi]
def aCh (f:Fl) (live:List Ext):List Ext:=if f.blocks=0 then live else f.ext::live
theorem bEm {α:Type} {ca c1 g A B X Y:List α} (h:ca.Perm (c1++g)):(ca++(A++(B++(X++Y)))).Perm (c1++(A++(B++(X++(g++Y))))):=by
 refine(h.append_right _).trans ?_
 rw[AR]
 refine BJ _ ?_
 refine(List.perm_append_comm_assoc _ _ _).trans (BJ _ ?_)
 refine(List.perm_append_comm_assoc _ _ _).trans (BJ _ ?_)
 exact List.perm_append_comm_assoc _ _ _
structure LayRX where
 i:Nat
 cd:aAc
 c1:aAc
 cs:aAc
 cx:aAc
 cb:aAc
 W:Wk
 last:T5
 some:Bool
theorem lay_ct (bz bw bd ba bs:Nat) (W:Wk) (cd ca cs:aAc) (h:Wc bd ba bs W cd ca cs) (g:Gr) (hg:g∈W.α.gs) (by_ k:Nat) (o:T5) (once:Bool) (ts:List T5) (ws:List Int) (hws:ws.length=g.n) (hT:aKa g k ts.length ts) (hw:ws.take (ts.length*k)=aBo k ts)
  (p:Option Addr) (cap:Nat) (last:T5) (some:Bool) (fs:List Fl) (vc:aAc) (hV:Vec 27 4 p fs.length cap (aAi fs) vc) (hr:W.δ.size≤W.α.room-W.α.used) (hac:W.δ.acts≤100000000000) (hn:ts.length≤100000000) (hfs:fs.length≤100000000):
  Ct AC 163 [pv bz,pv by_] [aPk bz bw o once p fs.length cap last some,aAh bw bd ba bs,cd,ca,cs,vc,[(by_,row (aBu g.bb k ts.length o) 211)],[(g.br,row (aAg ws) 158)]] fun v H'=>
   ∃cd' ca' cs' W' vc' ws' p' cap' last' some' fs',H'=[aPk bz bw o once p' fs'.length cap' last' some',aAh bw bd ba bs,cd',ca',cs',vc',[(by_,row (aBu g.bb k ts.length o) 211)],[(g.br,row (aAg ws') 158)]]∧Wc bd ba bs W' cd' ca' cs'∧
    Ev W W' (aAb W.δ.size k ts.length) (aAb W.δ.size k ts.length)∧aBr W.live W W'∧W'.α.gs.Perm W.α.gs∧ws'.length=g.n∧Vec 27 4 p' fs'.length cap' (aAi fs') vc'∧
    ((v= .int .i64 0∧∃f out,fs'=fs++[f]∧W'.live=aCh f W.live∧f.width=k∧f.count≤ts.length∧aAq W'.δ.disk W.δ.size [f.ext] f out∧Sd (ltO o) once out∧Go.Srt.Sp (ltO o) once ts out)∨
     (v= .int .i64 5∧fs'=fs∧big W.σ.free<aAb W.δ.size k ts.length∧W'.live.Perm W.live)∨
     (v= .int .i64 6∧fs'=fs∧W.δ.fault≠-1∧W'.live.Perm W.live)):=by
 obtain⟨⟨hs1,hs2⟩,hbk,hfr⟩:=h.dev.num
 have hk1:=hT.k1
 have hk5:=hT.k5
 have hp:=aAj hs1 hk1 hk5
 obtain⟨c1,hc1⟩:=h.ar.open_ hg
 have h':Wc bd ba bs W cd (c1++[g.obj]) cs:=⟨h.dev,h.ar.perm hc1.symm,h.sp,h.nn,h.live⟩
 have hwsd:ws=aBo k ts++ws.drop (ts.length*k):=by rw[←hw,List.take_append_drop]
 obtain⟨rest,hrest⟩:∃rest,rest=ws.drop (ts.length*k):=⟨_,rfl⟩
 rw[←hrest] at hwsd
 have hrl:rest.length+ts.length*k=g.n:=by
  have:=congrArg List.length hwsd
  rw[AF,aCf hk5,hws] at this
  omega
 subst hwsd
 clear hrest hw
 have hS:=bEi by_ g k ts.length o rest ts hT
 refine Ct.permH (H2:=[aPk bz bw o once p fs.length cap last some,aAh bw bd ba bs,cd,c1,cs,vc,[(by_,row (aBu g.bb k ts.length o) 211)],[g.obj],[(g.br,row (aAg (aBo k ts++rest)) 158)]]) ?_ ?_
 ·unfold aEt at hS
  unfold aPk aHx
  generalize hob:[g.obj]=gobj at*
  refine Ct.intro Tryz.func163 rfl Tryz.ntmps163 (nle rfl) fun w0=> ?_;dsimp only[aAa,AD]
  repeat(first|(refine st ?_;intros)|refine G.draw [] (h:= ?_)|(refine cq hA ?_))
  refine R.call (hct:=hS) (h:= ?_)
  rintro _ _ ⟨rfl,ts',rfl,hT',hsp,hsd⟩
  try dsimp only[AA,AB]
  clear hS
  have hlen:=hT'.len
  obtain⟨e1,e2⟩:=bEl (once:=once) hsp hsd
  have hel:=aUn o once ts'
  unfold aBu at*
  have hWr:=aJy bw bd ba bs W cd _ cs h' k ts.length hk1 hk5 hn hr
  have hAt:=fun i hi=>bMl by_ g k o ts' rest hk1 hk5 hT.gn (by rw[hlen];exact hT.fit) hT'.ok i hi
  unfold aEt aBu at hAt
  rw[hob,hlen] at hAt
  rw[hlen]
  repeat(first|(refine st ?_;intros)|refine G.draw [] (h:= ?_)|(refine cq hA ?_))
  apply R1.join (c1:=c1) (c2:=gobj)
  ·(repeat(first|exact aAn.here|apply aAn.there))
  ·(repeat(first|exact aAn.here|apply aAn.there))
  apply R.call
  ·exact rfl
  ·exact hWr
  ·exact(by repeat(first|exact aAo.nil|(apply aAo.cons;·(repeat(first|exact aAn.here|apply aAn.there|exact aAn.nil)))))
  ·exact rfl
  ·exact nle rfl
  rintro _ _ (⟨hfit,bx,first,g1,cd',ca',cs',W1,cx,cb,rfl,rfl,hW1,hE1,e3,e4,e5,e6,e7⟩|⟨hfull,rfl,cd',ca',cs',W1,rfl,hW1,hE1,e3,e4,e5⟩)
  ·obtain⟨c2,hc2⟩:=hW1.ar.open_ (g:=g) (e4.mem_iff.2 (AJ _ hg))
   rw[hob] at hc2
   apply R.open hc2
   ·(repeat(first|exact aAn.here|apply aAn.there))
   repeat(first|(refine st ?_;intros)|refine G.draw [] (h:= ?_)|(refine cq hA ?_))
   refine G.loop (X:=LayRX) (fun x=>x.i≤ts.length∧Wc bd ba bs x.W x.cd (x.c1++gobj) x.cs∧Ev W x.W ((aGj o once (ts'.take x.i)).length/aAf W.δ.size k) (aAb W.δ.size k ts.length)∧aBr W.live W x.W∧x.W.α.gs.Perm (g1::W.α.gs)∧aDm first (aAb W.δ.size k ts.length) W.live x.W.live∧
     aIa bw bx x.W first (aAb W.δ.size k ts.length) k ts.length g1 (aGj o once (ts'.take x.i)) x.cx x.cb∧bEj (aGj o once (ts'.take x.i)) x.last x.some)
    (fun x=>[(39,.int .i64 (x.i:Int)),(38,.int .i64 (ts.length:Int)),(5,pv bx),(0,pv bz),(1,pv by_)])
    (fun x=>[[(bz,row [pv bw,.int .i64 o.c0,.int .i64 o.c1,.int .i64 o.c2,.int .i64 o.c3,.int .i64 o.c4,.bool once,.slice p fs.length cap,.int .i64 x.last.c0,.int .i64 x.last.c1,.int .i64 x.last.c2,.int .i64 x.last.c3,.int .i64 x.last.c4,.bool x.some] 186)],aAh bw bd ba bs,x.cd,x.c1,x.cs,x.cx,x.cb,vc,[(by_,row [pv g.bb,.int .i64 (k:Int),.int .i64 (ts.length:Int),.int .i64 o.c0,.int .i64 o.c1,.int .i64 o.c2,.int .i64 o.c3,.int .i64 o.c4] 211)],gobj,[(g.br,row (aAg (aBo k ts'++rest)) 158)]])
    (fun x=>ts.length-x.i) ⟨0,cd',c2,cs',cx,cb,W1,last,false⟩
    ⟨AS _,⟨hW1.dev,hW1.ar.perm hc2.symm,hW1.sp,hW1.nn,hW1.live⟩,by simpa[aGj] using hE1,fun x _=>by rw[e3],e4,e6,by simpa[aGj] using e7,by simp[aGj,bEj]⟩ (body:= ?_)
   rintro⟨i,cd1,c3,cs1,cx1,cb1,W2,last1,some1⟩ ⟨hi,hW2,hE2,hK2,hg2,hl2,hw2,hL2⟩
   dsimp only at hi hW2 hE2 hK2 hg2 hl2 hw2 hL2⊢
   have hacts:=hE2.acts
   have hsz:=hE2.size
   have hel2:=aUn o once (ts'.take i)
   rw[BK] at hel2
   have hdl:(aGj o once (ts'.take i)).length/aAf W.δ.size k≤ts.length:=BA (CU _ _) (by omega)
   have hnof:W2.δ.fault=0→W.δ.fault≠-1:=fun e0 e1=>by have:=hE2.fault e1;omega
   by_cases hin:i<ts.length
   ·have hlt:i<ts'.length:=by omega
    have hPt:=bKs bz bw bd ba bs W2 cd1 _ cs1 hW2 bx first _ k ts.length g1 _ cx1 cb1 hw2 W.α.gs hg2 W.live hl2 (by omega) (at_ ts' i) (hT'.ok _ (by unfold at_;rw[AN,AE hlt];exact B4 hlt)) (by omega) o once p fs.length cap last1 some1 hL2
    have hat:aLe o once (aGj o once (ts'.take i)) (at_ ts' i)=aGj o once (ts'.take (i+1)):=by
     rw[bBf hlt];unfold at_;rw[AN,AE hlt];rfl
    rw[hat] at hPt
    have hA:=hAt i hin
    unfold aPk aHx at hPt
    repeat(first|(refine st ?_;intros)|refine G.draw [] (h:= ?_)|(refine cq hA ?_))
    apply R1.join (c1:=c3) (c2:=gobj)
    ·(repeat(first|exact aAn.here|apply aAn.there))
    ·(repeat(first|exact aAn.here|apply aAn.there))
    refine R.call (hct:=hPt) (h:= ?_)
    rintro _ _ ⟨cd3,ca3,cs3,W3,cx3,cb3,last3,some3,rfl,hW3,hE3,hK3,⟨rfl,e8,e9,e10,e11,e12⟩|⟨rfl,e8,e9,e10,e11,e12⟩⟩
    try dsimp only[AA,AB]
    ·obtain⟨c4,hc4⟩:=hW3.ar.open_ (g:=g) (by rw[e8];exact hg2.mem_iff.2 (AJ _ hg))
     rw[hob] at hc4
     apply R.open hc4
     ·(repeat(first|exact aAn.here|apply aAn.there))
     repeat(first|(refine st ?_;intros)|refine G.draw [] (h:= ?_)|(refine cq hA ?_))
     refine Dn.round ⟨i+1,cd3,c4,cs3,cx3,cb3,W3,last3,some3⟩ ⟨hin,⟨hW3.dev,hW3.ar.perm hc4.symm,hW3.sp,hW3.nn,hW3.live⟩,?_,hK2.trans hK3,by rw[e8];exact hg2,by rw[e10];exact hl2,e11,e12⟩ (by dsimp only;omega)
     have:=hE2.trans hE3
     rw[hsz] at this
     refine this.weak ?_ (AG _)
     have hm:(aGj o once (ts'.take i)).length/aAf W.δ.size k≤(aGj o once (ts'.take (i+1))).length/aAf W.δ.size k:=BY (by rw[←hat];exact(aNb _ _ _ _).1)
     dsimp only
     omega
    ·have hDr:=bDt bx cx3 e12
     repeat(first|(refine st ?_;intros)|refine G.draw [] (h:= ?_)|(refine cq hA ?_))
     refine R.call (hct:=hDr) (h:= ?_)
     rintro _ _ ⟨rfl,rfl⟩
     try dsimp only[AA,AB]
     repeat(first|(refine st ?_;intros)|refine G.draw [] (h:= ?_)|(refine cq hA ?_))
     (refine Dn.post (Hr:=[[(bz,row [pv bw,.int .i64 o.c0,.int .i64 o.c1,.int .i64 o.c2,.int .i64 o.c3,.int .i64 o.c4,.bool once,.slice p fs.length cap,.int .i64 last3.c0,.int .i64 last3.c1,.int .i64 last3.c2,.int .i64 last3.c3,.int .i64 last3.c4,.bool some3] 186)],aAh bw bd ba bs,cd3,ca3,cs3,vc,[(by_,row [pv g.bb,.int .i64 (k:Int),.int .i64 (ts.length:Int),.int .i64 o.c0,.int .i64 o.c1,.int .i64 o.c2,.int .i64 o.c3,.int .i64 o.c4] 211)],[(g.br,row (aAg (aBo k ts'++rest)) 158)]]) Tryz.results163 (hR:= ?_);refine⟨cd3,ca3,cs3,W3,vc,aBo k ts'++rest,p,cap,last3,some3,fs,rfl,hW3,?_,hK2.trans hK3,e10,by rw[AF,aCf hk5,hlen];omega,hV,.inr (.inr ⟨rfl,rfl,hnof e8,e11⟩)⟩)
     have:=hE2.trans hE3
     refine{this with acts:=⟨this.acts.1,?_⟩}
     rw[e9]
     refine BA hE2.acts.2 (Nat.add_le_add_left ?_ _)
     refine BA (BY (c:=aAf W.δ.size k) (show _≤ts.length by omega)) ?_
     unfold aAb;exact BY (by omega)
   ·obtain rfl:i=ts.length:=by omega
    have htk:ts'.take ts.length=ts':=by rw[←hlen];exact List.take_length
    rw[htk] at hw2 hE2
    have hCl:=aOd bw bd ba bs W2 cd1 _ cs1 hW2 bx first _ k ts.length g1 _ cx1 cb1 hw2 W.α.gs hg2 W.live hl2 (by omega)
    rw[hsz] at hCl
    have hem:aAb W.δ.size k (aGj o once ts').length≤aAb W.δ.size k ts.length:=aAk (by omega)
    have hed:(aGj o once ts').length/aAf W.δ.size k≤aAb W.δ.size k (aGj o once ts').length:=by unfold aAb;exact BY (by omega)
    repeat(first|(refine st ?_;intros)|refine G.draw [] (h:= ?_)|(refine cq hA ?_))
    apply R1.join (c1:=c3) (c2:=gobj)
    ·(repeat(first|exact aAn.here|apply aAn.there))
    ·(repeat(first|exact aAn.here|apply aAn.there))
    refine R.call (hct:=hCl) (h:= ?_)
    rintro _ _ ⟨cd3,ca3,cs3,W3,cx3,cb3,rfl,hW3,hE3,hK3,hg3,hx3,⟨f,rfl,e8,e9,e10,e11⟩|⟨rfl,e8,e9,e10⟩⟩
    try dsimp only[AA,AB]
    ·have hfl:flv f= .agg #[.int .i64 (f.first:Int),.int .i64 (f.blocks:Int),.int .i64 (f.width:Int),.int .i64 (f.count:Int)]:=rfl
     rw[hfl]
     repeat(first|(refine st ?_;intros)|refine G.draw [] (h:= ?_)|(refine cq hA ?_))
     rename_i p' cap' c' hV'
     have hV3:Vec 27 4 p' (fs.length+1) cap' (aAi (fs++[f])) c':=by rw[aCo];exact hV'
     have hfl1:(fs++[f]).length=fs.length+1:=by simp
     rw[←hfl1] at hV3
     (refine Dn.post (Hr:=[[(bz,row [pv bw,.int .i64 o.c0,.int .i64 o.c1,.int .i64 o.c2,.int .i64 o.c3,.int .i64 o.c4,.bool once,.slice p' (fs.length+1) cap',.int .i64 last1.c0,.int .i64 last1.c1,.int .i64 last1.c2,.int .i64 last1.c3,.int .i64 last1.c4,.bool some1] 186)],aAh bw bd ba bs,cd3,ca3,cs3,c',[(by_,row [pv g.bb,.int .i64 (k:Int),.int .i64 (ts.length:Int),.int .i64 o.c0,.int .i64 o.c1,.int .i64 o.c2,.int .i64 o.c3,.int .i64 o.c4] 211)],[(g.br,row (aAg (aBo k ts'++rest)) 158)]]) Tryz.results163 (hR:= ?_);refine⟨cd3,ca3,cs3,W3,c',aBo k ts'++rest,p',cap',last1,some1,fs++[f],by rw[hfl1],hW3,?_,hK2.trans hK3,hg3,by rw[AF,aCf hk5,hlen];omega,hV3,.inl ⟨rfl,f,_,rfl,e8,e9,by omega,e11,e1,e2⟩⟩)
     exact(hE2.trans hE3).weak (by omega) (AG _)
    ·repeat(first|(refine st ?_;intros)|refine G.draw [] (h:= ?_)|(refine cq hA ?_))
     (refine Dn.post (Hr:=[[(bz,row [pv bw,.int .i64 o.c0,.int .i64 o.c1,.int .i64 o.c2,.int .i64 o.c3,.int .i64 o.c4,.bool once,.slice p fs.length cap,.int .i64 last1.c0,.int .i64 last1.c1,.int .i64 last1.c2,.int .i64 last1.c3,.int .i64 last1.c4,.bool some1] 186)],aAh bw bd ba bs,cd3,ca3,cs3,vc,[(by_,row [pv g.bb,.int .i64 (k:Int),.int .i64 (ts.length:Int),.int .i64 o.c0,.int .i64 o.c1,.int .i64 o.c2,.int .i64 o.c3,.int .i64 o.c4] 211)],[(g.br,row (aAg (aBo k ts'++rest)) 158)]]) Tryz.results163 (hR:= ?_);refine⟨cd3,ca3,cs3,W3,vc,aBo k ts'++rest,p,cap,last1,some1,fs,rfl,hW3,?_,hK2.trans hK3,hg3,by rw[AF,aCf hk5,hlen];omega,hV,.inr (.inr ⟨rfl,rfl,hnof e8,e10⟩)⟩)
     exact(hE2.trans hE3).weak (by omega) (AG _)
  ·rw[←hob] at*
   repeat(first|(refine st ?_;intros)|refine G.draw [] (h:= ?_)|(refine cq hA ?_))
   (refine Dn.post (Hr:=[[(bz,row [pv bw,.int .i64 o.c0,.int .i64 o.c1,.int .i64 o.c2,.int .i64 o.c3,.int .i64 o.c4,.bool once,.slice p fs.length cap,.int .i64 last.c0,.int .i64 last.c1,.int .i64 last.c2,.int .i64 last.c3,.int .i64 last.c4,.bool false] 186)],aAh bw bd ba bs,cd',ca',cs',vc,[(by_,row [pv g.bb,.int .i64 (k:Int),.int .i64 (ts.length:Int),.int .i64 o.c0,.int .i64 o.c1,.int .i64 o.c2,.int .i64 o.c3,.int .i64 o.c4] 211)],[(g.br,row (aAg (aBo k ts'++rest)) 158)]]) Tryz.results163 (hR:= ?_);refine⟨cd',ca',cs',W1,vc,aBo k ts'++rest,p,cap,last,false,fs,rfl,hW1,hE1.weak (AS _) (AS _),fun x _=>by rw[e3],e5,by rw[AF,aCf hk5,hlen];omega,hV,.inr (.inl ⟨rfl,rfl,hfull,by rw[e4]⟩)⟩)
 ·simp only[AW,A8,AQ,AR]
  exact BJ _ (BJ _ (BJ _ (bEm hc1)))
def aAy (fs:List Fl) (live:List Ext):List Ext:=fs.foldl (fun l f=>aCh f l) live
theorem aIm (fs:List Fl) (f:Fl) (live:List Ext):aAy (fs++[f]) live=aCh f (aAy fs live):=by simp[aAy]
theorem aCx {f:Fl} {a b:List Ext} (h:a.Perm b):(aCh f a).Perm (aCh f b):=by
 unfold aCh;split
 ·exact h
 ·exact h.cons _
theorem aKq {f:Fl} {a:List Ext} {e:Ext} (h:e∈a):e∈aCh f a:=by
 unfold aCh;split
 ·exact h
 ·exact AJ _ h
theorem aCy {fs:List Fl} {a:List Ext} {e:Ext} (h:e∈a):e∈aAy fs a:=by
 unfold aAy
 induction fs generalizing a with
 |nil=>exact h
 |cons f fs ih=>exact ih (aKq h)
theorem aGv {fs:List Fl} {a:List Ext} {f:Fl} (h:f∈fs) (hb:f.blocks≠0):f.ext∈aAy fs a:=by
 induction fs generalizing a with
 |nil=>simp at h
 |cons x fs ih=>
  rcases List.mem_cons.1 h with rfl|h
  ·have h1:f.ext∈aCh f a:=by unfold aCh;rw[if_neg hb];exact AI
   exact aCy (fs:=fs) h1
  ·exact ih h
structure aCs (d:Nat→Option (List Int)) (size k:Nat) (o:T5) (once:Bool) (l:List T5) (rs:List (Fl×List T5)):Prop where
 each:∀r∈rs,r.1.width=k∧aAq d size [r.1.ext] r.1 r.2∧Sd (ltO o) once r.2
 sp:Go.Srt.Sp (ltO o) once l (rs.flatMap (·.2))
 pos:l≠[]→∀r∈rs,0<r.1.count
theorem bEn {o:T5} {once:Bool} {a b:List T5} (h:Go.Srt.Sp (ltO o) once a b) (hb:b=[]):a=[]:=by
 subst hb
 cases a with
 |nil=>rfl
 |cons x a=>
  have h1:=h x
  have h2:eqv (ltO o) x x=true:=aCv.2 ⟨(aBv o).irr _,(aBv o).irr _⟩
  rw[List.filter_cons_of_pos h2] at h1
  cases once<;>simp[aGu] at h1
theorem aCs.keep {d d':Nat→Option (List Int)} {size k:Nat} {o:T5} {once:Bool} {l:List T5} {rs:List (Fl×List T5)} (h:aCs d size k o once l rs) {live0:List Ext} (hk:∀x,inF (aAy (rs.map (·.1)) live0) x→d' x=d x):aCs d' size k o once l rs:=
 ⟨fun r hr=>⟨(h.each r hr).1,(h.each r hr).2.1.keep fun x hx=>hk x (by
   obtain⟨e,he,h1,h2⟩:=hx
   simp only[AY] at he
   subst he
   refine⟨r.1.ext,aGv (List.mem_map.2 ⟨r,hr,rfl⟩) ?_,h1,h2⟩
   simp only[Fl.ext] at h1 h2;omega),(h.each r hr).2.2⟩,h.sp,h.pos⟩
theorem aCs.more {d:Nat→Option (List Int)} {size k:Nat} {o:T5} {once:Bool} {l src out:List T5} {rs:List (Fl×List T5)} {f:Fl} (h:aCs d size k o once l rs) (h1:f.width=k) (h2:aAq d size [f.ext] f out) (h3:Sd (ltO o) once out) (h4:Go.Srt.Sp (ltO o) once src out) (h5:rs=[]∨(l≠[]∧src≠[])):
  aCs d size k o once (l++src) (rs++[(f,out)]):=
 ⟨fun r hr=>by
  rcases AO.1 hr with hr|hr
  ·exact h.each r hr
  ·simp only[AY] at hr
   subst hr;exact⟨h1,h2,h3⟩,by
  rw[List.flatMap_append]
  refine Go.Srt.Sp.app h.sp ?_
  simpa using h4,fun hne r hr=>by
  have hol:=h2.len
  have hout:src≠[]→0<f.count:=fun hs=>by
   rw[←hol]
   cases out with
   |nil=>exact absurd (bEn h4 rfl) hs
   |cons a b=>simp
  rcases h5 with rfl|⟨h6,h7⟩
  ·have hl:l=[]:=bEn h.sp rfl
   subst hl
   simp only[AB,AY] at hne hr
   subst hr;exact hout hne
  ·rcases AO.1 hr with hr|hr
   ·exact h.pos h6 r hr
   ·simp only[AY] at hr
    subst hr;exact hout h7⟩
theorem aAv {s k n:Nat} (hp:1≤aAf s k):aAb s k n≤n:=by
 unfold aAb
 rw[DS (by omega)]
 have:=DR n (show 0<aAf s k by omega)
 omega
theorem Ev.arena {W W':Wk} {α α8:Ar} {k m:Nat} (h:Ev W W' k m) (h8:α8.room=W'.α.room) (h9:Ev {W' with α:=α8} {W' with α:=α} 0 0):Ev W {W' with α:=α} k m:={h with room:=h9.room.trans (h8.trans h.room)}
theorem S_le {S pos q h:Nat} (hh:1≤h) (hS:S*h≤pos+q*(h-1)):S≤pos+q:=by
 apply Classical.byContradiction
 intro hn
 have h1:(pos+q+1)*h≤S*h:=A5 _ (by omega)
 have h2:(pos+q+1)*h=pos*h+q*h+h:=by rw[DM,DM,Nat.one_mul]
 have h3:pos≤pos*h:=Nat.le_mul_of_pos_right _ (by omega)
 have h4:q*(h-1)≤q*h:=Nat.mul_le_mul_left _ (by omega)
 omega
theorem aQm {S pos q h m n:Nat} (hh:1≤h) (hS:S*h≤pos+q*(h-1)) (hn:n=(m+h-1)/h):(S+n)*h≤pos+m+(q+1)*(h-1):=by
 have h1:n*h≤m+h-1:=by rw[hn];exact DK _ _
 rw[DM,BD]
 omega
structure FormX where
 q:Nat
 pos:Nat
 S:Nat
 n0:Nat
 rs:List (Fl×List T5)
 cd:aAc
 ca:aAc
 cs:aAc
 cx:aAc
 cb:aAc
 vc:aAc
 ws:List Int
 W:Wk
 p:Option Addr
 cap:Nat
 last:T5
 some:Bool
theorem bMq (bz bw bd ba bs:Nat) (W:Wk) (cd ca cs:aAc) (h:Wc bd ba bs W cd ca cs) (f:Fl) (fts:List T5) (Lv:List Ext) (hfo:aAq W.δ.disk W.δ.size Lv f fts) (hsub:∀e∈Lv,e∈W.live) (o:T5) (once:Bool) (last:T5) (some:Bool)
  (hr:5*W.δ.size≤W.α.room-W.α.used) (hac:W.δ.acts≤10000000000) (hcn:f.count≤1000000) (L0 c:Nat) (hL0:L0=W.α.room-W.α.used) (hc:c=(L0-2*W.δ.size)/f.width):
  Ct AC 128 [pv bz,flv f] [aPk bz bw o once none 0 0 last some,aAh bw bd ba bs,cd,ca,cs] fun v H'=>
   ∃cd' ca' cs' W' vc' p' cap' last' some' rs q S l,H'=[aPk bz bw o once p' rs.length cap' last' some',aAh bw bd ba bs,cd',ca',cs',vc']∧Wc bd ba bs W' cd' ca' cs'∧
    Ev W W' (aAb W.δ.size f.width f.count+S) S∧aBr W.live W W'∧W'.α.gs.Perm W.α.gs∧Vec 27 4 p' rs.length cap' (aAi (rs.map (·.1))) vc'∧W'.live.Perm (aAy (rs.map (·.1)) W.live)∧
    aCs W'.δ.disk W.δ.size f.width o once l rs∧S*aAf W.δ.size f.width≤f.count+q*(aAf W.δ.size f.width-1)∧(q-1)*c≤f.count∧(0<f.count→(q-1)*c<f.count)∧q≤f.count+1∧
    ((v= .int .i64 0∧l=fts∧rs≠[]∧rs.length=q∧((rs.map (·.1.count)).sum≤f.count)∧((rs.map (·.1.blocks)).sum≤S))∨(v= .int .i64 5∧big W.σ.free<S)∨(v= .int .i64 6∧W.δ.fault≠-1)):=by
 obtain⟨⟨hs1,hs2⟩,hbk,hfr⟩:=h.dev.num
 obtain⟨hu1,hu2,_,hu4⟩:=h.ar.num
 have hk1:=hfo.w1
 have hk5:=hfo.w2
 have hp:=aAj hs1 hk1 hk5
 have htl:=hfo.len
 have hRd:=aIk bw bd ba bs W cd ca cs h f fts Lv hfo (by omega)
 have hD:=aGs bw bd ba bs
 have hA:=aGt bw bd ba bs
 have hfl:flv f= .agg #[.int .i64 (f.first:Int),.int .i64 (f.blocks:Int),.int .i64 (f.width:Int),.int .i64 (f.count:Int)]:=rfl
 rw[hfl] at hRd⊢
 unfold aPk aHx
 refine Ct.introD Tryz.func128 rfl Tryz.ntmps128 (nle rfl) fun w0=> ?_;dsimp only[aAa,AD]
 repeat(first|(refine st ?_;intros)|refine G.draw [] (h:= ?_)|refine G.draw (id:=5) [(4,.quiet),(9,.quiet),(10,.quiet),(15,.quiet),(16,.quiet)] (h:= ?_)|(refine cq hD ?_)|(refine cq hA ?_)|(refine cq hL ?_)|(refine cq hSz ?_))
 refine R.call (hct:=hRd) (h:= ?_)
 rintro _ _ ⟨bx,g,ca1,α1,cx,cb,rfl,rfl,hW1,hE1,hg1,hgn,hr1⟩
 try dsimp only[AA,AB]
 have hu5:α1.used=W.α.used+W.δ.size:=by
  have e1:=hW1.ar.num.2.2.2
  dsimp only at e1
  rw[e1,(hg1.map (·.n)).sum_nat,hu4,A0,DB,hgn];omega
 have hroom1:α1.room=W.α.room:=hE1.room
 have hL:=bHz ba α1 ca1 hW1.ar
 rw[show(α1.room:Int)-(α1.used:Int)=((L0-W.δ.size:Nat):Int) by omega] at hL
 have hSz:=aGh bd W.δ cd hW1.dev
 have eb:AH .i64 (((L0-W.δ.size:Nat):Int)-(W.δ.size:Int))=((L0-2*W.δ.size:Nat):Int):=by rw[aAd (by omega)];omega
 have hGr:=bDi ba α1 ca1 hW1.ar (L0-2*W.δ.size) (by omega)
 have hMn:(L0-2*W.δ.size)≤1000000000:=by omega
 generalize hM:L0-2*W.δ.size=M at*
 repeat(first|(refine st ?_;intros)|refine G.draw [] (h:= ?_)|refine G.draw (id:=5) [(4,.quiet),(9,.quiet),(10,.quiet),(15,.quiet),(16,.quiet)] (h:= ?_)|(refine cq hD ?_)|(refine cq hA ?_)|(refine cq hL ?_)|(refine cq hSz ?_))
 refine R.call (hct:=hGr) (h:= ?_)
 rintro _ _ ⟨g2,ca2,α2,hg2n,rfl,hA2,hg2,hroom2,rfl⟩
 try dsimp only[AA,AB]
 repeat(first|(refine st ?_;intros)|refine G.draw [] (h:= ?_)|refine G.draw (id:=5) [(4,.quiet),(9,.quiet),(10,.quiet),(15,.quiet),(16,.quiet)] (h:= ?_)|(refine cq hD ?_)|(refine cq hA ?_)|(refine cq hL ?_)|(refine cq hSz ?_))
 rename_i b3 b8
 have hm0:c*f.width≤M:=by rw[hc];exact DK _ _
 have hMs:3*W.δ.size≤M:=by omega
 have hc1:1≤c:=by rw[hc,CI (by omega)];omega
 have hgsum:∀α:Ar,∀c',aKm ba α c'→α.gs.Perm (g::g2::W.α.gs)→α.room=W.α.room→W.δ.size≤α.room-α.used:=by
  intro α c' hA hpm hrm
  have e1:=hA.num.2.2.2
  rw[e1,(hpm.map (·.n)).sum_nat,A0,A0,DB,DB,hgn,hg2n,←hu4,hrm];omega
 refine G.loop (X:=FormX) (fun x=>x.q=x.rs.length∧x.pos=min (x.q*c) f.count∧(x.q=0∨(x.q-1)*c<f.count)∧x.S*aAf W.δ.size f.width≤x.pos+x.q*(aAf W.δ.size f.width-1)∧(x.rs.map (·.1.count)).sum≤x.pos∧(x.rs.map (·.1.blocks)).sum≤x.S∧
   Wc bd ba bs x.W x.cd x.ca x.cs∧Ev W x.W (aAb W.δ.size f.width x.pos+x.S) x.S∧aBr W.live W x.W∧x.W.α.gs.Perm (g::g2::W.α.gs)∧x.W.live.Perm (aAy (x.rs.map (·.1)) W.live)∧aCs x.W.δ.disk W.δ.size f.width o once (fts.take x.pos) x.rs∧
   aGo bw bx x.W f fts g x.pos x.cx x.cb∧Vec 27 4 x.p x.rs.length x.cap (aAi (x.rs.map (·.1))) x.vc∧x.ws.length=g2.n)
  (fun x=>[(8,pv b8),(5,pv bx),(0,pv bz)])
  (fun x=>[[(b8,row [pv g2.bb,.int .i64 (f.width:Int),.int .i64 (x.n0:Int),.int .i64 o.c0,.int .i64 o.c1,.int .i64 o.c2,.int .i64 o.c3,.int .i64 o.c4] 211)],x.ca,[(g2.br,row (aAg x.ws) 158)],aAh bw bd ba bs,x.cd,x.cs,x.cx,x.cb,x.vc,[(bz,row [pv bw,.int .i64 o.c0,.int .i64 o.c1,.int .i64 o.c2,.int .i64 o.c3,.int .i64 o.c4,.bool once,.slice x.p x.rs.length x.cap,.int .i64 x.last.c0,.int .i64 x.last.c1,.int .i64 x.last.c2,.int .i64 x.last.c3,.int .i64 x.last.c4,.bool x.some] 186)]])
  (fun x=>f.count-x.pos) ⟨0,0,0,0,[],cd,ca2,cs,cx,cb,[],List.replicate M 0,{W with α:=α2},none,0,last,some⟩
  ⟨rfl,by simp,.inl rfl,by simp,by simp,by simp,⟨h.dev,hA2,h.sp,h.nn,h.live⟩,by rw[aEc hp];exact⟨rfl,rfl,⟨AG _,AG _⟩,id,by dsimp only;rw[hroom2,hroom1],AG _⟩,fun _ _=>rfl,?_,List.Perm.refl _,⟨by simp,by simpa using Go.Srt.Sp.refl _ _,by simp⟩,hr1.move rfl,Vec.nil _ _,by rw[List.length_replicate,hg2n]⟩ (by repeat(first|exact trivial|refine⟨rfl,?_⟩)) (by repeat(first|exact aAo.nil|(apply aAo.cons;·(first|exact aAn.nil|(repeat(first|exact aAn.here|apply aAn.there)))))) ?_
 ·exact hg2.trans ((hg1.cons _).trans (CO _ _ _))
 rintro⟨q,pos,S,n0,rs,cd1,ca1',cs1,cx1,cb1,vc1,ws1,W1,p1,cap1,last1,some1⟩ ⟨hq,hpos,hql,hS,hcs,hbs,hW1',hE,hK,hgs,hlv,hR,hrd,hV,hwl⟩
 dsimp only at hq hpos hql hS hcs hbs hW1' hE hK hgs hlv hR hrd hV hwl⊢
 have hsz:=hE.size
 have hacts:=hE.acts
 have hSle:=S_le hp hS
 have hqc:q≤f.count:=by
  rcases hql with h0|h0
  ·omega
  ·have:=Nat.le_mul_of_pos_right (q-1) (show 0<c by omega)
   omega
 have hnp:aAb W.δ.size f.width pos≤pos:=by
  unfold aAb
  rw[DS (by omega)]
  have:=DR pos (show 0<aAf W.δ.size f.width by omega)
  omega
 have hq3:(q-1)*c≤f.count∧(0<f.count→(q-1)*c<f.count):=by
  rcases hql with h0|h0
  ·rw[h0];simp
  ·exact⟨EB h0,fun _=>h0⟩
 have htkA:pos=f.count→fts.take pos=fts:=fun e=>A4 (by omega)
 have hlm:(rs.map (·.1)).length=rs.length:=AX _
 have hFi:=bMp bw bd ba bs W1 cd1 ca1' cs1 hW1' bx f fts W.live (by rw[hsz];exact(hfo.sub hsub).keep hK) (fun e he=>hlv.mem_iff.2 (aCy he)) g g2 (g2::W.α.gs) hgs AI pos (by omega) cx1 cb1 hrd (by omega) b8 n0 o ws1 hwl (by omega)
 rw[hg2n,←hc,hsz] at hFi
 unfold aBu at hFi
 repeat(first|(refine st ?_;intros)|refine G.draw [] (h:= ?_)|refine G.draw (id:=5) [(4,.quiet),(9,.quiet),(10,.quiet),(15,.quiet),(16,.quiet)] (h:= ?_)|(refine cq hD ?_)|(refine cq hA ?_)|(refine cq hL ?_)|(refine cq hSz ?_))
 refine R.call (hct:=hFi) (h:= ?_)
 rintro _ _ ⟨cd3,ca3,W3,cx3,cb3,ts3,ws3,m,rfl,hW3,hE3,hd3,hσ3,hl3,hw3,hts3,htk3,⟨rfl,e6,e7,e8⟩|⟨rfl,e6,e7,e8,e9⟩⟩
 try dsimp only[AA,AB]
 ·have htkB:pos+m=f.count→fts.take (pos+m)=fts:=fun e=>A4 (by omega)
  have hmle:m≤f.count-pos:=by omega
  have htsl:ts3.length=m:=by rw[hts3,BK,List.length_drop,htl];omega
  have hE4:=hE.trans hE3
  have hnm:aAb W.δ.size f.width pos≤aAb W.δ.size f.width (pos+m):=aAk (by omega)
  have hnc:aAb W.δ.size f.width (pos+m)≤aAb W.δ.size f.width f.count:=aAk (by omega)
  have hK4:aBr W.live W W3:=fun x hx=>by rw[hd3];exact hK x hx
  have hgs3:W3.α.gs.Perm (g::g2::W.α.gs):=by rw[e7];exact hgs
  have hlv3:W3.live.Perm (aAy (rs.map (·.1)) W.live):=by rw[hl3];exact hlv
  have hR3:aCs W3.δ.disk W.δ.size f.width o once (fts.take pos) rs:=by rw[hd3];exact hR
  have hsz3:W3.δ.size=W.δ.size:=hE4.size
  have hacts3:=hE4.acts
  have hnp2:aAb W.δ.size f.width (pos+m)≤pos+m:=aAv hp
  by_cases hm0q:m=0∧0<q
  ·obtain⟨hm00,hq0⟩:=hm0q
   have hpc:pos=f.count:=by omega
   have hrl:0<rs.length:=by omega
   repeat(first|(refine st ?_;intros)|refine G.draw [] (h:= ?_)|refine G.draw (id:=5) [(4,.quiet),(9,.quiet),(10,.quiet),(15,.quiet),(16,.quiet)] (h:= ?_)|(refine cq hD ?_)|(refine cq hA ?_)|(refine cq hL ?_)|(refine cq hSz ?_))
   have hRl:=aDh ba W3.α ca3 hW3.ar g2 (g::W.α.gs) (hgs3.trans (CO _ _ _))
   refine Go.SL.Lv.call (hc:=hRl.2) (h:= ?_)
   rintro _ _ ⟨ca8,α8,rfl,hA8,hg8,hroom8,rfl⟩
   try dsimp only[AA,AB]
   have hW8:Wc bd ba bs {W3 with α:=α8} cd3 ca8 cs1:=⟨hW3.dev,hA8,hW3.sp,hW3.nn,hW3.live⟩
   have hRc:=aDi bw bd ba bs {W3 with α:=α8} cd3 ca8 cs1 hW8 bx f fts g W.α.gs hg8 (pos+m) cx3 cb3 (e8.move rfl)
   refine Go.SL.Lv.call (hc:=hRc.2) (h:= ?_)
   rintro _ _ ⟨ca9,α9,cx9,rfl,rfl,hW9,hE9,hg9,hx9⟩
   try dsimp only[AA,AB]
   (refine Go.SL.Lv.nil (Hr:=[[(bz,row [pv bw,.int .i64 o.c0,.int .i64 o.c1,.int .i64 o.c2,.int .i64 o.c3,.int .i64 o.c4,.bool once,.slice p1 rs.length cap1,.int .i64 last1.c0,.int .i64 last1.c1,.int .i64 last1.c2,.int .i64 last1.c3,.int .i64 last1.c4,.bool some1] 186)],aAh bw bd ba bs,cd3,ca9,cs1,vc1]) Tryz.results128 (hR:= ?_);exact⟨cd3,ca9,cs1,_,vc1,p1,cap1,last1,some1,rs,q,S,fts,rfl,hW9,(hE4.weak (by omega) (AG _)).arena hroom8 hE9,hK4,hg9,hV,hlv3,by rw[←htkA (by omega)];exact hR3,by omega,hq3.1,hq3.2,by omega,.inl ⟨rfl,rfl,fun e=>by rw[e] at hrl;simp at hrl,hq.symm,by omega,hbs⟩⟩)
  ·have hlay:=lay_ct bz bw bd ba bs W3 cd3 ca3 cs1 hW3 g2 (hgs3.mem_iff.2 (by simp)) b8 f.width o once ts3 ws3 (by rw[hg2n];exact hw3) ⟨hk1,hk5,by omega,by rw[htsl,hg2n];exact BA (A5 _ (by omega)) hm0,rfl,fun t ht=>hfo.fit t (List.mem_of_mem_drop (List.mem_of_mem_take (hts3▸ht)))⟩ (by rw[htsl];exact htk3)
    p1 cap1 last1 some1 (rs.map (·.1)) vc1 (by rw[AX];exact hV) (by rw[hsz3];exact hgsum W3.α ca3 hW3.ar hgs3 hE4.room) (by omega) (by omega) (by rw[AX];omega)
   rw[htsl,AX,hsz3] at hlay
   unfold aPk aHx aBu at hlay
   by_cases hm1:m=0
   ·have hq0:q=0:=by omega
    have hrl0:rs.length=0:=by omega
    repeat(first|(refine st ?_;intros)|refine G.draw [] (h:= ?_)|refine G.draw (id:=5) [(4,.quiet),(9,.quiet),(10,.quiet),(15,.quiet),(16,.quiet)] (h:= ?_)|(refine cq hD ?_)|(refine cq hA ?_)|(refine cq hL ?_)|(refine cq hSz ?_))
    refine R.call (hct:=hlay) (h:= ?_)
    rintro _ _ ⟨cd5,ca5,cs5,W5,vc5,ws5,p5,cap5,last5,some5,fs5,rfl,hW5,hE5,hK5,hg5,hw5,hV5,⟨rfl,f5,out,rfl,hl5,hf5,hfc5,hfo5,hsd5,hsp5⟩|⟨rfl,rfl,hbig5,hl5⟩|⟨rfl,rfl,hf5,hl5⟩⟩
    try dsimp only[AA,AB]
    ·have hrm5:W5.α.room=W3.α.room:=hE5.room
     have hsz5:W5.δ.size=W3.δ.size:=hE5.size
     have hgs5:W5.α.gs.Perm (g::g2::W.α.gs):=hg5.trans hgs3
     have hE6:=hE4.trans hE5
     have hS6:=aQm (S:=S) (pos:=pos) (q:=q) (m:=m) hp hS rfl
     have hE7:Ev W W5 (aAb W.δ.size f.width (pos+m)+(S+aAb W.δ.size f.width m)) (S+aAb W.δ.size f.width m):=hE6.weak (by omega) (by omega)
     have hK7:aBr W.live W W5:=hK4.trans (hK5.sub fun e he=>hlv3.mem_iff.2 (aCy he))
     have hR7:aCs W5.δ.disk W.δ.size f.width o once (fts.take pos) rs:=hR3.keep (live0:=W.live) fun x hx=>hK5 x ((aGc hlv3 x).2 hx)
     have hql7:(q+1-1)*c≤f.count∧(0<f.count→(q+1-1)*c<f.count):=by
      rw[DH]
      by_cases hm1:m=0
      ·have:q=0:=by omega
       subst this;simp
      ·have:q*c<f.count:=by omega
       exact⟨EB this,fun _=>this⟩
     have hbl5:f5.blocks≤aAb W.δ.size f.width m:=by rw[hfo5.blk,hf5];exact aAk (by omega)
     have hts:fts.take pos++ts3=fts.take (pos+m):=by rw[hts3,List.take_add]
     have hR8:aCs W5.δ.disk W.δ.size f.width o once (fts.take (pos+m)) (rs++[(f5,out)]):=by rw[←hts];exact hR7.more hf5 hfo5 hsd5 hsp5 (.inl (D7.1 hrl0))
     have hl8:W5.live.Perm (aAy ((rs++[(f5,out)]).map (·.1)) W.live):=by
      rw[hl5,AV,List.map_singleton,aIm];exact aCx hlv3
     have hV8:Vec 27 4 p5 (rs++[(f5,out)]).length cap5 (aAi ((rs++[(f5,out)]).map (·.1))) vc5:=by simpa using hV5
     have hln:(rs.map (·.1)++[f5]).length=(rs++[(f5,out)]).length:=by simp
     have hc8:((rs++[(f5,out)]).map (·.1.count)).sum≤pos+m:=by simp;omega
     have hb8:((rs++[(f5,out)]).map (·.1.blocks)).sum≤S+aAb W.δ.size f.width m:=by simp;omega
     rw[hln]
     repeat(first|(refine st ?_;intros)|refine G.draw [] (h:= ?_)|refine G.draw (id:=5) [(4,.quiet),(9,.quiet),(10,.quiet),(15,.quiet),(16,.quiet)] (h:= ?_)|(refine cq hD ?_)|(refine cq hA ?_)|(refine cq hL ?_)|(refine cq hSz ?_))
     have hRl:=aDh ba W5.α ca5 hW5.ar g2 (g::W.α.gs) (hgs5.trans (CO _ _ _))
     refine Go.SL.Lv.call (hc:=hRl.2) (h:= ?_)
     rintro _ _ ⟨ca8,α8,rfl,hA8,hg8,hroom8,rfl⟩
     try dsimp only[AA,AB]
     have hW8:Wc bd ba bs {W5 with α:=α8} cd5 ca8 cs5:=⟨hW5.dev,hA8,hW5.sp,hW5.nn,hW5.live⟩
     have hRc:=aDi bw bd ba bs {W5 with α:=α8} cd5 ca8 cs5 hW8 bx f fts g W.α.gs hg8 (pos+m) cx3 cb3 (e8.move hsz5)
     refine Go.SL.Lv.call (hc:=hRc.2) (h:= ?_)
     rintro _ _ ⟨ca9,α9,cx9,rfl,rfl,hW9,hE9,hg9,hx9⟩
     try dsimp only[AA,AB]
     (refine Go.SL.Lv.nil (Hr:=[[(bz,row [pv bw,.int .i64 o.c0,.int .i64 o.c1,.int .i64 o.c2,.int .i64 o.c3,.int .i64 o.c4,.bool once,.slice p5 (rs++[(f5,out)]).length cap5,.int .i64 last5.c0,.int .i64 last5.c1,.int .i64 last5.c2,.int .i64 last5.c3,.int .i64 last5.c4,.bool some5] 186)],aAh bw bd ba bs,cd5,ca9,cs5,vc5]) Tryz.results128 (hR:= ?_);exact⟨cd5,ca9,cs5,_,vc5,p5,cap5,last5,some5,rs++[(f5,out)],q+1,S+aAb W.δ.size f.width m,fts,rfl,hW9,(hE7.weak (by omega) (AG _)).arena hroom8 hE9,hK7,hg9,hV8,hl8,by rw[←htkB (by omega)];exact hR8,BA hS6 (DD (by omega) _),hql7.1,hql7.2,by omega,.inl ⟨rfl,rfl,by simp,by simp[hq],by omega,hb8⟩⟩)
    ·have hrm5:W5.α.room=W3.α.room:=hE5.room
     have hsz5:W5.δ.size=W3.δ.size:=hE5.size
     have hgs5:W5.α.gs.Perm (g::g2::W.α.gs):=hg5.trans hgs3
     have hE6:=hE4.trans hE5
     have hS6:=aQm (S:=S) (pos:=pos) (q:=q) (m:=m) hp hS rfl
     have hE7:Ev W W5 (aAb W.δ.size f.width (pos+m)+(S+aAb W.δ.size f.width m)) (S+aAb W.δ.size f.width m):=hE6.weak (by omega) (by omega)
     have hK7:aBr W.live W W5:=hK4.trans (hK5.sub fun e he=>hlv3.mem_iff.2 (aCy he))
     have hR7:aCs W5.δ.disk W.δ.size f.width o once (fts.take pos) rs:=hR3.keep (live0:=W.live) fun x hx=>hK5 x ((aGc hlv3 x).2 hx)
     have hql7:(q+1-1)*c≤f.count∧(0<f.count→(q+1-1)*c<f.count):=by
      rw[DH]
      by_cases hm1:m=0
      ·have:q=0:=by omega
       subst this;simp
      ·have:q*c<f.count:=by omega
       exact⟨EB this,fun _=>this⟩
     repeat(first|(refine st ?_;intros)|refine G.draw [] (h:= ?_)|refine G.draw (id:=5) [(4,.quiet),(9,.quiet),(10,.quiet),(15,.quiet),(16,.quiet)] (h:= ?_)|(refine cq hD ?_)|(refine cq hA ?_)|(refine cq hL ?_)|(refine cq hSz ?_))
     have hRl:=aDh ba W5.α ca5 hW5.ar g2 (g::W.α.gs) (hgs5.trans (CO _ _ _))
     refine Go.SL.Lv.call (hc:=hRl.2) (h:= ?_)
     rintro _ _ ⟨ca8,α8,rfl,hA8,hg8,hroom8,rfl⟩
     try dsimp only[AA,AB]
     have hW8:Wc bd ba bs {W5 with α:=α8} cd5 ca8 cs5:=⟨hW5.dev,hA8,hW5.sp,hW5.nn,hW5.live⟩
     have hRc:=aDi bw bd ba bs {W5 with α:=α8} cd5 ca8 cs5 hW8 bx f fts g W.α.gs hg8 (pos+m) cx3 cb3 (e8.move hsz5)
     refine Go.SL.Lv.call (hc:=hRc.2) (h:= ?_)
     rintro _ _ ⟨ca9,α9,cx9,rfl,rfl,hW9,hE9,hg9,hx9⟩
     try dsimp only[AA,AB]
     (refine Go.SL.Lv.nil (Hr:=[[(bz,row [pv bw,.int .i64 o.c0,.int .i64 o.c1,.int .i64 o.c2,.int .i64 o.c3,.int .i64 o.c4,.bool once,.slice p5 (rs.map (·.1)).length cap5,.int .i64 last5.c0,.int .i64 last5.c1,.int .i64 last5.c2,.int .i64 last5.c3,.int .i64 last5.c4,.bool some5] 186)],aAh bw bd ba bs,cd5,ca9,cs5,vc5]) Tryz.results128 (hR:= ?_);exact⟨cd5,ca9,cs5,_,vc5,p5,cap5,last5,some5,rs,q+1,S+aAb W.δ.size f.width m,fts.take pos,by rw[hlm],hW9,(hE7.weak (by omega) (AG _)).arena hroom8 hE9,hK7,hg9,by rw[hlm] at hV5;exact hV5,hl5.trans hlv3,hR7,BA hS6 (DD (by omega) _),hql7.1,hql7.2,by omega,.inr (.inl ⟨rfl,by have:=hE4.big;omega⟩)⟩)
    ·have hrm5:W5.α.room=W3.α.room:=hE5.room
     have hsz5:W5.δ.size=W3.δ.size:=hE5.size
     have hgs5:W5.α.gs.Perm (g::g2::W.α.gs):=hg5.trans hgs3
     have hE6:=hE4.trans hE5
     have hS6:=aQm (S:=S) (pos:=pos) (q:=q) (m:=m) hp hS rfl
     have hE7:Ev W W5 (aAb W.δ.size f.width (pos+m)+(S+aAb W.δ.size f.width m)) (S+aAb W.δ.size f.width m):=hE6.weak (by omega) (by omega)
     have hK7:aBr W.live W W5:=hK4.trans (hK5.sub fun e he=>hlv3.mem_iff.2 (aCy he))
     have hR7:aCs W5.δ.disk W.δ.size f.width o once (fts.take pos) rs:=hR3.keep (live0:=W.live) fun x hx=>hK5 x ((aGc hlv3 x).2 hx)
     have hql7:(q+1-1)*c≤f.count∧(0<f.count→(q+1-1)*c<f.count):=by
      rw[DH]
      by_cases hm1:m=0
      ·have:q=0:=by omega
       subst this;simp
      ·have:q*c<f.count:=by omega
       exact⟨EB this,fun _=>this⟩
     repeat(first|(refine st ?_;intros)|refine G.draw [] (h:= ?_)|refine G.draw (id:=5) [(4,.quiet),(9,.quiet),(10,.quiet),(15,.quiet),(16,.quiet)] (h:= ?_)|(refine cq hD ?_)|(refine cq hA ?_)|(refine cq hL ?_)|(refine cq hSz ?_))
     have hRl:=aDh ba W5.α ca5 hW5.ar g2 (g::W.α.gs) (hgs5.trans (CO _ _ _))
     refine Go.SL.Lv.call (hc:=hRl.2) (h:= ?_)
     rintro _ _ ⟨ca8,α8,rfl,hA8,hg8,hroom8,rfl⟩
     try dsimp only[AA,AB]
     have hW8:Wc bd ba bs {W5 with α:=α8} cd5 ca8 cs5:=⟨hW5.dev,hA8,hW5.sp,hW5.nn,hW5.live⟩
     have hRc:=aDi bw bd ba bs {W5 with α:=α8} cd5 ca8 cs5 hW8 bx f fts g W.α.gs hg8 (pos+m) cx3 cb3 (e8.move hsz5)
     refine Go.SL.Lv.call (hc:=hRc.2) (h:= ?_)
     rintro _ _ ⟨ca9,α9,cx9,rfl,rfl,hW9,hE9,hg9,hx9⟩
     try dsimp only[AA,AB]
     (refine Go.SL.Lv.nil (Hr:=[[(bz,row [pv bw,.int .i64 o.c0,.int .i64 o.c1,.int .i64 o.c2,.int .i64 o.c3,.int .i64 o.c4,.bool once,.slice p5 (rs.map (·.1)).length cap5,.int .i64 last5.c0,.int .i64 last5.c1,.int .i64 last5.c2,.int .i64 last5.c3,.int .i64 last5.c4,.bool some5] 186)],aAh bw bd ba bs,cd5,ca9,cs5,vc5]) Tryz.results128 (hR:= ?_);exact⟨cd5,ca9,cs5,_,vc5,p5,cap5,last5,some5,rs,q+1,S+aAb W.δ.size f.width m,fts.take pos,by rw[hlm],hW9,(hE7.weak (by omega) (AG _)).arena hroom8 hE9,hK7,hg9,by rw[hlm] at hV5;exact hV5,hl5.trans hlv3,hR7,BA hS6 (DD (by omega) _),hql7.1,hql7.2,by omega,.inr (.inr ⟨rfl,fun e=>hf5 (hE4.fault e)⟩)⟩)
   ·repeat(first|(refine st ?_;intros)|refine G.draw [] (h:= ?_)|refine G.draw (id:=5) [(4,.quiet),(9,.quiet),(10,.quiet),(15,.quiet),(16,.quiet)] (h:= ?_)|(refine cq hD ?_)|(refine cq hA ?_)|(refine cq hL ?_)|(refine cq hSz ?_))
    refine R.call (hct:=hlay) (h:= ?_)
    rintro _ _ ⟨cd5,ca5,cs5,W5,vc5,ws5,p5,cap5,last5,some5,fs5,rfl,hW5,hE5,hK5,hg5,hw5,hV5,⟨rfl,f5,out,rfl,hl5,hf5,hfc5,hfo5,hsd5,hsp5⟩|⟨rfl,rfl,hbig5,hl5⟩|⟨rfl,rfl,hf5,hl5⟩⟩
    try dsimp only[AA,AB]
    ·have hrm5:W5.α.room=W3.α.room:=hE5.room
     have hsz5:W5.δ.size=W3.δ.size:=hE5.size
     have hgs5:W5.α.gs.Perm (g::g2::W.α.gs):=hg5.trans hgs3
     have hE6:=hE4.trans hE5
     have hS6:=aQm (S:=S) (pos:=pos) (q:=q) (m:=m) hp hS rfl
     have hE7:Ev W W5 (aAb W.δ.size f.width (pos+m)+(S+aAb W.δ.size f.width m)) (S+aAb W.δ.size f.width m):=hE6.weak (by omega) (by omega)
     have hK7:aBr W.live W W5:=hK4.trans (hK5.sub fun e he=>hlv3.mem_iff.2 (aCy he))
     have hR7:aCs W5.δ.disk W.δ.size f.width o once (fts.take pos) rs:=hR3.keep (live0:=W.live) fun x hx=>hK5 x ((aGc hlv3 x).2 hx)
     have hql7:(q+1-1)*c≤f.count∧(0<f.count→(q+1-1)*c<f.count):=by
      rw[DH]
      by_cases hm1:m=0
      ·have:q=0:=by omega
       subst this;simp
      ·have:q*c<f.count:=by omega
       exact⟨EB this,fun _=>this⟩
     have hbl5:f5.blocks≤aAb W.δ.size f.width m:=by rw[hfo5.blk,hf5];exact aAk (by omega)
     have hts:fts.take pos++ts3=fts.take (pos+m):=by rw[hts3,List.take_add]
     have hne6:rs=[]∨(fts.take pos≠[]∧ts3≠[]):=by
      by_cases hq0:q=0
      ·left;exact D7.1 (by omega)
      ·right
       have hqc1:0<q*c:=Nat.mul_pos (by omega) (by omega)
       constructor
       ·intro e
        have:=congrArg List.length e
        rw[BK,htl,AU] at this
        omega
       ·intro e
        rw[e,AU] at htsl;omega
     have hR8:aCs W5.δ.disk W.δ.size f.width o once (fts.take (pos+m)) (rs++[(f5,out)]):=by rw[←hts];exact hR7.more hf5 hfo5 hsd5 hsp5 hne6
     have hl8:W5.live.Perm (aAy ((rs++[(f5,out)]).map (·.1)) W.live):=by
      rw[hl5,AV,List.map_singleton,aIm];exact aCx hlv3
     have hV8:Vec 27 4 p5 (rs++[(f5,out)]).length cap5 (aAi ((rs++[(f5,out)]).map (·.1))) vc5:=by simpa using hV5
     have hln:(rs.map (·.1)++[f5]).length=(rs++[(f5,out)]).length:=by simp
     have hc8:((rs++[(f5,out)]).map (·.1.count)).sum≤pos+m:=by simp;omega
     have hb8:((rs++[(f5,out)]).map (·.1.blocks)).sum≤S+aAb W.δ.size f.width m:=by simp;omega
     rw[hln]
     repeat(first|(refine st ?_;intros)|refine G.draw [] (h:= ?_)|refine G.draw (id:=5) [(4,.quiet),(9,.quiet),(10,.quiet),(15,.quiet),(16,.quiet)] (h:= ?_)|(refine cq hD ?_)|(refine cq hA ?_)|(refine cq hL ?_)|(refine cq hSz ?_))
     refine Dn.round ⟨q+1,pos+m,S+aAb W.δ.size f.width m,m,rs++[(f5,out)],cd5,ca5,cs5,cx3,cb3,vc5,ws5,W5,p5,cap5,last5,some5⟩ ⟨by simp[hq],?_,.inr ?_,hS6,hc8,hb8,hW5,hE7,hK7,hgs5,hl8,hR8,e8.move hsz5,hV8,hw5⟩ (by dsimp only;omega)
     ·dsimp only
      have:(q+1)*c=q*c+c:=BD _ _
      omega
     ·dsimp only
      rw[DH];omega
    ·have hrm5:W5.α.room=W3.α.room:=hE5.room
     have hsz5:W5.δ.size=W3.δ.size:=hE5.size
     have hgs5:W5.α.gs.Perm (g::g2::W.α.gs):=hg5.trans hgs3
     have hE6:=hE4.trans hE5
     have hS6:=aQm (S:=S) (pos:=pos) (q:=q) (m:=m) hp hS rfl
     have hE7:Ev W W5 (aAb W.δ.size f.width (pos+m)+(S+aAb W.δ.size f.width m)) (S+aAb W.δ.size f.width m):=hE6.weak (by omega) (by omega)
     have hK7:aBr W.live W W5:=hK4.trans (hK5.sub fun e he=>hlv3.mem_iff.2 (aCy he))
     have hR7:aCs W5.δ.disk W.δ.size f.width o once (fts.take pos) rs:=hR3.keep (live0:=W.live) fun x hx=>hK5 x ((aGc hlv3 x).2 hx)
     have hql7:(q+1-1)*c≤f.count∧(0<f.count→(q+1-1)*c<f.count):=by
      rw[DH]
      by_cases hm1:m=0
      ·have:q=0:=by omega
       subst this;simp
      ·have:q*c<f.count:=by omega
       exact⟨EB this,fun _=>this⟩
     repeat(first|(refine st ?_;intros)|refine G.draw [] (h:= ?_)|refine G.draw (id:=5) [(4,.quiet),(9,.quiet),(10,.quiet),(15,.quiet),(16,.quiet)] (h:= ?_)|(refine cq hD ?_)|(refine cq hA ?_)|(refine cq hL ?_)|(refine cq hSz ?_))
     have hRl:=aDh ba W5.α ca5 hW5.ar g2 (g::W.α.gs) (hgs5.trans (CO _ _ _))
     refine Go.SL.Lv.call (hc:=hRl.2) (h:= ?_)
     rintro _ _ ⟨ca8,α8,rfl,hA8,hg8,hroom8,rfl⟩
     try dsimp only[AA,AB]
     have hW8:Wc bd ba bs {W5 with α:=α8} cd5 ca8 cs5:=⟨hW5.dev,hA8,hW5.sp,hW5.nn,hW5.live⟩
     have hRc:=aDi bw bd ba bs {W5 with α:=α8} cd5 ca8 cs5 hW8 bx f fts g W.α.gs hg8 (pos+m) cx3 cb3 (e8.move hsz5)
     refine Go.SL.Lv.call (hc:=hRc.2) (h:= ?_)
     rintro _ _ ⟨ca9,α9,cx9,rfl,rfl,hW9,hE9,hg9,hx9⟩
     try dsimp only[AA,AB]
     (refine Go.SL.Lv.nil (Hr:=[[(bz,row [pv bw,.int .i64 o.c0,.int .i64 o.c1,.int .i64 o.c2,.int .i64 o.c3,.int .i64 o.c4,.bool once,.slice p5 (rs.map (·.1)).length cap5,.int .i64 last5.c0,.int .i64 last5.c1,.int .i64 last5.c2,.int .i64 last5.c3,.int .i64 last5.c4,.bool some5] 186)],aAh bw bd ba bs,cd5,ca9,cs5,vc5]) Tryz.results128 (hR:= ?_);exact⟨cd5,ca9,cs5,_,vc5,p5,cap5,last5,some5,rs,q+1,S+aAb W.δ.size f.width m,fts.take pos,by rw[hlm],hW9,(hE7.weak (by omega) (AG _)).arena hroom8 hE9,hK7,hg9,by rw[hlm] at hV5;exact hV5,hl5.trans hlv3,hR7,BA hS6 (DD (by omega) _),hql7.1,hql7.2,by omega,.inr (.inl ⟨rfl,by have:=hE4.big;omega⟩)⟩)
    ·have hrm5:W5.α.room=W3.α.room:=hE5.room
     have hsz5:W5.δ.size=W3.δ.size:=hE5.size
     have hgs5:W5.α.gs.Perm (g::g2::W.α.gs):=hg5.trans hgs3
     have hE6:=hE4.trans hE5
     have hS6:=aQm (S:=S) (pos:=pos) (q:=q) (m:=m) hp hS rfl
     have hE7:Ev W W5 (aAb W.δ.size f.width (pos+m)+(S+aAb W.δ.size f.width m)) (S+aAb W.δ.size f.width m):=hE6.weak (by omega) (by omega)
     have hK7:aBr W.live W W5:=hK4.trans (hK5.sub fun e he=>hlv3.mem_iff.2 (aCy he))
     have hR7:aCs W5.δ.disk W.δ.size f.width o once (fts.take pos) rs:=hR3.keep (live0:=W.live) fun x hx=>hK5 x ((aGc hlv3 x).2 hx)
     have hql7:(q+1-1)*c≤f.count∧(0<f.count→(q+1-1)*c<f.count):=by
      rw[DH]
      by_cases hm1:m=0
      ·have:q=0:=by omega
       subst this;simp
      ·have:q*c<f.count:=by omega
       exact⟨EB this,fun _=>this⟩
     repeat(first|(refine st ?_;intros)|refine G.draw [] (h:= ?_)|refine G.draw (id:=5) [(4,.quiet),(9,.quiet),(10,.quiet),(15,.quiet),(16,.quiet)] (h:= ?_)|(refine cq hD ?_)|(refine cq hA ?_)|(refine cq hL ?_)|(refine cq hSz ?_))
     have hRl:=aDh ba W5.α ca5 hW5.ar g2 (g::W.α.gs) (hgs5.trans (CO _ _ _))
     refine Go.SL.Lv.call (hc:=hRl.2) (h:= ?_)
     rintro _ _ ⟨ca8,α8,rfl,hA8,hg8,hroom8,rfl⟩
     try dsimp only[AA,AB]
     have hW8:Wc bd ba bs {W5 with α:=α8} cd5 ca8 cs5:=⟨hW5.dev,hA8,hW5.sp,hW5.nn,hW5.live⟩
     have hRc:=aDi bw bd ba bs {W5 with α:=α8} cd5 ca8 cs5 hW8 bx f fts g W.α.gs hg8 (pos+m) cx3 cb3 (e8.move hsz5)
     refine Go.SL.Lv.call (hc:=hRc.2) (h:= ?_)
     rintro _ _ ⟨ca9,α9,cx9,rfl,rfl,hW9,hE9,hg9,hx9⟩
     try dsimp only[AA,AB]
     (refine Go.SL.Lv.nil (Hr:=[[(bz,row [pv bw,.int .i64 o.c0,.int .i64 o.c1,.int .i64 o.c2,.int .i64 o.c3,.int .i64 o.c4,.bool once,.slice p5 (rs.map (·.1)).length cap5,.int .i64 last5.c0,.int .i64 last5.c1,.int .i64 last5.c2,.int .i64 last5.c3,.int .i64 last5.c4,.bool some5] 186)],aAh bw bd ba bs,cd5,ca9,cs5,vc5]) Tryz.results128 (hR:= ?_);exact⟨cd5,ca9,cs5,_,vc5,p5,cap5,last5,some5,rs,q+1,S+aAb W.δ.size f.width m,fts.take pos,by rw[hlm],hW9,(hE7.weak (by omega) (AG _)).arena hroom8 hE9,hK7,hg9,by rw[hlm] at hV5;exact hV5,hl5.trans hlv3,hR7,BA hS6 (DD (by omega) _),hql7.1,hql7.2,by omega,.inr (.inr ⟨rfl,fun e=>hf5 (hE4.fault e)⟩)⟩)
 ·repeat(first|(refine st ?_;intros)|refine G.draw [] (h:= ?_)|refine G.draw (id:=5) [(4,.quiet),(9,.quiet),(10,.quiet),(15,.quiet),(16,.quiet)] (h:= ?_)|(refine cq hD ?_)|(refine cq hA ?_)|(refine cq hL ?_)|(refine cq hSz ?_))
  have hnm:aAb W.δ.size f.width pos≤aAb W.δ.size f.width (pos+m):=aAk (by omega)
  have hnc:aAb W.δ.size f.width (pos+m)≤aAb W.δ.size f.width f.count:=aAk (by omega)
  have hE5:Ev W W3 (aAb W.δ.size f.width f.count+S) S:=(hE.trans hE3).weak (by omega) (by omega)
  have hRl:=aDh ba W3.α ca3 hW3.ar g2 W.α.gs e7
  have hRc:=aJd bx cx3 e8
  refine Go.SL.Lv.call (hc:=hRl.2) (h:= ?_)
  rintro _ _ ⟨ca4,α4,rfl,hA4,hg4,hroom4,rfl⟩
  try dsimp only[AA,AB]
  refine Go.SL.Lv.call (hc:=hRc.2) (h:= ?_)
  rintro _ _ ⟨rfl,rfl⟩
  try dsimp only[AA,AB]
  (refine Go.SL.Lv.nil (Hr:=[[(bz,row [pv bw,.int .i64 o.c0,.int .i64 o.c1,.int .i64 o.c2,.int .i64 o.c3,.int .i64 o.c4,.bool once,.slice p1 rs.length cap1,.int .i64 last1.c0,.int .i64 last1.c1,.int .i64 last1.c2,.int .i64 last1.c3,.int .i64 last1.c4,.bool some1] 186)],aAh bw bd ba bs,cd3,ca4,cs1,vc1]) Tryz.results128 (hR:= ?_);exact⟨cd3,ca4,cs1,{W3 with α:=α4},vc1,p1,cap1,last1,some1,rs,q,S,fts.take pos,rfl,⟨hW3.dev,hA4,hW3.sp,hW3.nn,hW3.live⟩,{hE5 with room:=hroom4.trans hE5.room},fun x hx=>by rw[hd3];exact hK x hx,hg4,hV,by rw[hl3];exact hlv,by rw[hd3];exact hR,by omega,hq3.1,hq3.2,by omega,.inr (.inr ⟨rfl,fun e=>e6 (hE.fault e)⟩)⟩)
end Go.Proofs.YtammjnjpheobaaaGreat
