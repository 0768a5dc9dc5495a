/-
  Parts of the proof, put together (6). No condition.
-/
import Derived.Test.YtaofijjjheiknaaGreatQ5
set_option linter.unusedVariables false
set_option linter.unusedSimpArgs false
set_option linter.unnecessarySimpa false
set_option maxHeartbeats 4000000
open Classical renaming byContradiction→BX
open Go.IntKind renaming wrap→AL
open Go.Proofs.Tryz renaming prog→AC
open Int renaming natCast_add→DE
open List renaming cons_append→AA,nil_append→AB,mem_cons_self→AE,mem_cons_of_mem→AF,getElem?_eq_getElem→AG,length_append→AH,length_nil→AO,getD_eq_getElem?_getD→AP,append_nil→AQ,length_map→AR,mem_append→AS,append_assoc→AT,mem_singleton→AW,flatten_cons→AX,map_cons→AZ,map_append→A0,flatten_nil→A4,take_of_length_le→A6,length_take→BJ,take_add_one→BP,getElem_mem→B6,pairwise_append→B8,filter_append→CD,sum_cons→DJ,length_eq_zero_iff→DM
open List.Pairwise renaming nil→DH
open List.Perm renaming append_left→BI,swap→CS,append_right→DF
open Nat renaming reduceAdd→AD,le_refl→AI,zero_le→AU,le_trans→A5,mul_le_mul_right→BB,succ_mul→BH,div_le_div_right→B5,le_div_iff_mul_le→CN,div_le_self→CW,add_le_add_right→DP,add_sub_cancel→DQ,add_mul→DV,div_mul_le_self→DW,le_mul_of_pos_left→D5,div_le_iff_le_mul_add_pred→D6,le_of_lt→EK
open Go.Proofs.Tryz
open Go.Value renaming int→Z9
open Go.IntKind renaming i64→Z8
namespace Go.Proofs.YtaofijjjheiknaaGreat
open Go.SL Go.Spc Go.Tup Go.Srt
theorem Vp (i j:Nat):((i:Int)+(j:Int)).fdiv (2^min (Int.toNat 1) IntKind.u64.bits)=(((i+j)/2:Nat):Int):=by
 have e0:(2:Int)^min (Int.toNat 1) IntKind.u64.bits=2:=by decide
 rw[e0,Int.fdiv_eq_ediv_of_nonneg _ oA18];omega
theorem Srt.rot {o:T5} {ts us:List T5} {a m b c d:Nat} (h1:a≤m) (h2:m≤b) (hb:b≤ts.length) (hl:us.length=ts.length) (hr:∀k,at_ us k=Ci ts a m b k) (hc:∀i j,a≤i→i<m→m≤j→j<b→ltO o (at_ ts j) (at_ ts i)=true) (aa:c≤a) (ab:b≤d):Srt o ts us c d:=
 ⟨fU (Ee o) h1 h2 hb hl hr hc,(Ins.rot h1 h2 hl hr).wide aa ab⟩
theorem Srt.trans {o:T5} {ts us vs:List T5} {a b:Nat} (h:Srt o ts us a b) (h2:Srt o us vs a b):Srt o ts vs a b:=⟨h.1.trans h2.1,h.2.trans h2.2⟩
theorem Srt.wide {o:T5} {ts us:List T5} {a b c d:Nat} (h:Srt o ts us a b) (h1:c≤a) (h2:b≤d):Srt o ts us c d:=⟨h.1,h.2.wide h1 h2⟩
theorem Srt.refl (o:T5) (ts:List T5) (a b:Nat):Srt o ts ts a b:=⟨Go.Srt.Sp.refl _ _,Ins.refl _ _ _⟩
section
variable (bx:Nat) (g:Gr) (k n:Nat) (o:T5) (rest:List Int)
theorem gG:∀(d:Nat) (ts:List T5) (h:Dk g k n ts) (a m b:Nat),b-a≤d→a<m→m<b→b≤n→Seg (ltO o) ts a m→Seg (ltO o) ts m b→Ct AC 249 [Fw bx,Z9 Z8 a,Z9 Z8 m,Z9 Z8 b] (Bo bx g k o ts rest) fun v H'=> v= .tuple #[]∧∃ts',H'=Bo bx g k o ts' rest∧Dk g k n ts'∧Srt o ts ts' a b∧Seg (ltO o) ts' a b:=by
 intro d;induction d with
 |zero=>intro ts h a m b hd aw ax;omega
 |succ d ih=>
 intro ts h a m b hd aw ax hb s1 s2;have b8:=h.n_le;have ay:=Ee o;have ak:=h.len;have e1:AL .i64 ((m:Int)-(a:Int))=((m-a:Nat):Int):=by rw[Ah oM];omega
 have e2:AL .i64 ((b:Int)-(m:Int))=((b-m:Nat):Int):=by rw[Ah oM];omega
 refine cG func249 fun _=>?_;by_cases az:m=a+1
 ·clear ih;repeat(first|(refine st ?_;intros)|refine cq hL ?_)
  refine G.loop (X:=Nat×Nat) (fun x=>m≤x.1∧x.1≤x.2∧x.2≤b∧(x.1=m∨ltO o (at_ ts (x.1-1)) (at_ ts a)=true)∧(x.2=b∨ltO o (at_ ts x.2) (at_ ts a)=false))
   (fun x=>[(9,Z9 Z8 x.2),(8,Z9 Z8 x.1),(0,Fw bx),(1,Z9 Z8 a)])
   (fun x=>Bo bx g k o ts rest) (fun x=>x.2-x.1) (m,b) ⟨AI _,EK ax,AI _,.inl rfl,.inl rfl⟩ (body:=?_)
  rintro⟨i,j⟩ ⟨ae,a0,ag,f1,f2⟩;dsimp only at ae a0 ag f1 f2⊢;by_cases a1:i<j
  ·have al:=Vp i j;generalize hh:(i+j)/2=c at al;have a6:i≤c∧c<j:=oM;have e3:AL .i64 ((i:Int)+(j:Int))=((i+j:Nat):Int):=by rw[←DE];exact Ah oM
   have hL:=Vn h bx o rest c a oM oM;cases hl:ltO o (at_ ts c) (at_ ts a) with
   |true=>
    rw[hl] at hL;repeat(first|(refine st ?_;intros)|refine cq hL ?_)
    exact Dn.round (c+1,j) ⟨oM,oM,ag,.inr (by simpa using hl),f2⟩ oD
   |false=>
    rw[hl] at hL;repeat(first|(refine st ?_;intros)|refine cq hL ?_)
    exact Dn.round (i,c) ⟨ae,oM,oM,f1,.inr hl⟩ oD
  ·obtain rfl:i=j:=by omega
   repeat(first|(refine st ?_;intros)|refine cq hL ?_)
   refine G.loop (X:=Nat×List T5) (fun x=>a≤x.1∧x.1+1≤i∧Dk g k n x.2∧∀q,at_ x.2 q=Ci ts a (a+1) (x.1+1) q)
    (fun x=>[(11,Z9 Z8 x.1),(8,Z9 Z8 i),(0,Fw bx)])
    (fun x=>Bo bx g k o x.2 rest) (fun x=>i-x.1) (a,ts) ⟨AI _,oD,h,fun q=>(Vm ts (.inr rfl) oM (AI _) q).symm⟩ (body:=?_)
   rintro⟨c,us⟩ ⟨a7,bp,aa,hq⟩;dsimp only at a7 bp aa hq⊢;have e3:AL .i64 ((i:Int)-1)=((i-1:Nat):Int):=by rw[Ah oM];omega
   by_cases hc:c<i-1
   ·have hS:=Vo aa bx o rest c (c+1) oM oM oM;have e4:AL .i64 ((c:Int)+1)=((c+1:Nat):Int):=by rw[Ah oM];omega
    repeat(first|(refine st ?_;intros)|refine cq hL ?_)
    refine R.invoke (hct:=hS) (h:=?_);rintro _ _ ⟨rfl,rfl⟩;try dsimp only[AA,AB]
    repeat(first|(refine st ?_;intros)|refine cq hL ?_)
    exact Dn.round (c+1,sw us c (c+1)) ⟨oM,oD,aa.sw oM oM,rot_up a7 (by rw[aa.len];omega) hq⟩ oD
   ·obtain rfl:i=c+1:=by omega
    obtain⟨g1,g2⟩:=ins1 ay az ae ag s2 f1 f2 (by rw[az];exact hq);repeat(first|(refine st ?_;intros)|refine cq hL ?_)
    (refine dP (Bo bx g k o us rest) ?_;exact⟨rfl,us,rfl,aa,Srt.rot oM ae oM (by rw[aa.len,ak]) (by rw[az];exact hq) g1 (AI _) ag,g2⟩)
 by_cases a2:b=m+1
 ·clear ih;repeat(first|(refine st ?_;intros)|refine cq hL ?_)
  refine G.loop (X:=Nat×Nat) (fun x=>a≤x.1∧x.1≤x.2∧x.2≤m∧(x.1=a∨ltO o (at_ ts m) (at_ ts (x.1-1))=false)∧(x.2=m∨ltO o (at_ ts m) (at_ ts x.2)=true))
   (fun x=>[(13,Z9 Z8 x.2),(12,Z9 Z8 x.1),(0,Fw bx),(2,Z9 Z8 m)])
   (fun x=>Bo bx g k o ts rest) (fun x=>x.2-x.1) (a,m) ⟨AI _,EK aw,AI _,.inl rfl,.inl rfl⟩ (body:=?_)
  rintro⟨i,j⟩ ⟨ae,a0,ag,f1,f2⟩;dsimp only at ae a0 ag f1 f2⊢;by_cases a1:i<j
  ·have al:=Vp i j;generalize hh:(i+j)/2=c at al;have a6:i≤c∧c<j:=oM;have e3:AL .i64 ((i:Int)+(j:Int))=((i+j:Nat):Int):=by rw[←DE];exact Ah oM
   have hL:=Vn h bx o rest m c oM oM;cases hl:ltO o (at_ ts m) (at_ ts c) with
   |true=>
    rw[hl] at hL;repeat(first|(refine st ?_;intros)|refine cq hL ?_)
    exact Dn.round (i,c) ⟨ae,oM,oM,f1,.inr hl⟩ oD
   |false=>
    rw[hl] at hL;repeat(first|(refine st ?_;intros)|refine cq hL ?_)
    exact Dn.round (c+1,j) ⟨oM,oM,ag,.inr (by simpa using hl),f2⟩ oD
  ·obtain rfl:i=j:=by omega
   repeat(first|(refine st ?_;intros)|refine cq hL ?_)
   refine G.loop (X:=Nat×List T5) (fun x=>i≤x.1∧x.1≤m∧Dk g k n x.2∧∀q,at_ x.2 q=Ci ts x.1 m (m+1) q)
    (fun x=>[(15,Z9 Z8 x.1),(12,Z9 Z8 i),(0,Fw bx)])
    (fun x=>Bo bx g k o x.2 rest) (fun x=>x.1) (m,ts) ⟨oD,AI _,h,fun q=>(Vm ts (.inl rfl) (AI _) oM q).symm⟩ (body:=?_)
   rintro⟨c,us⟩ ⟨bq,a8,aa,hq⟩;dsimp only at bq a8 aa hq⊢;by_cases hc:i<c
   ·have hS:=Vo aa bx o rest c (c-1) oM oM oM;have e4:AL .i64 ((c:Int)-1)=((c-1:Nat):Int):=by rw[Ah oM];omega
    repeat(first|(refine st ?_;intros)|refine cq hL ?_)
    refine R.invoke (hct:=hS) (h:=?_);rintro _ _ ⟨rfl,rfl⟩;try dsimp only[AA,AB]
    repeat(first|(refine st ?_;intros)|refine cq hL ?_)
    exact Dn.round (c-1,sw us c (c-1)) ⟨oD,oD,aa.sw oM oM,rS oM a8 (by rw[aa.len];omega) hq⟩ oD
   ·obtain rfl:c=i:=by omega
    obtain⟨g1,g2⟩:=ins2 ay a2 ae ag s1 f1 f2 (by rw[a2];exact hq);repeat(first|(refine st ?_;intros)|refine cq hL ?_)
    (refine dP (Bo bx g k o us rest) ?_;exact⟨rfl,us,rfl,aa,Srt.rot ag oM oM (by rw[aa.len,ak]) (by rw[a2];exact hq) g1 ae (AI _),g2⟩)
 have e3:AL .i64 ((a:Int)+(b:Int))=((a+b:Nat):Int):=by rw[←DE];exact Ah oM
 have al:=Vp a b;generalize a9:(a+b)/2=mid at al;have e4:AL .i64 ((mid:Int)+(m:Int))=((mid+m:Nat):Int):=by rw[←DE];exact Ah oM
 obtain⟨ah,ac⟩:∃ah,ah=if mid<m then mid+m-b else a:=⟨_,rfl⟩
 obtain⟨ad,ab⟩:∃ad,ad=if mid<m then mid else m:=⟨_,rfl⟩
 have hN:mid+m≤a+b∨mid<m:=oM;have e5:AL .i64 (((mid+m:Nat):Int)-1)=((mid+m-1:Nat):Int):=by rw[Ah oM];omega
 have am:ah≤ad:=by split at ac<;>split at ab<;>omega
 have bc:ad≤m:=by split at ab<;>omega
 repeat(first|(refine stn ?_;intros)|refine cq hL ?_)
 apply G.seq;repeat(first|(refine stn ?_;intros)|refine cq hL ?_)
 apply G.seq;repeat(first|(refine stn ?_;intros)|refine cq hL ?_)
 apply G.seq;repeat(first|(refine stn ?_;intros)|refine cq hL ?_)
 apply G.seq;repeat(first|(refine stn ?_;intros)|refine cq hL ?_)
 apply G.seq;repeat(first|(refine stn ?_;intros)|refine cq hL ?_)
 apply G.seq;repeat(first|(refine stn ?_;intros)|refine cq hL ?_)
 apply G.seq;repeat(first|(refine stn ?_;intros)|refine cq hL ?_)
 refine G.cut (D':=[]) (X:=Unit) (fun _=>True) (fun _=>[(18,Z9 Z8 ah),(19,Z9 Z8 ad),(17,Z9 Z8 ((mid+m:Nat):Int)),(16,Z9 Z8 mid),(0,Fw bx),(1,Z9 Z8 a),(2,Z9 Z8 m),(3,Z9 Z8 b)])
  (fun _=>Bo bx g k o ts rest) ?_ ?_
 ·by_cases be:mid<m
  ·rw[if_pos be] at ac ab;have e6:AL .i64 (((mid+m:Nat):Int)-(b:Int))=(ah:Int):=by rw[Ah oM];omega
   subst ab;repeat(first|(refine st ?_;intros)|refine cq hL ?_)
   exact Dn.meet () trivial
  ·rw[if_neg be] at ac ab;subst ac ab;repeat(first|(refine st ?_;intros)|refine cq hL ?_)
   exact Dn.meet () trivial
 rintro⟨⟩-;repeat(first|(refine st ?_;intros)|refine cq hL ?_)
 refine G.loop (X:=Nat×Nat) (fun x=>ah≤x.1∧x.1≤x.2∧x.2≤ad∧(x.1=ah∨ltO o (at_ ts (mid+m-x.1)) (at_ ts (x.1-1))=false)∧(x.2=ad∨ltO o (at_ ts (mid+m-1-x.2)) (at_ ts x.2)=true))
  (fun x=>[(20,Z9 Z8 ((mid+m-1:Nat):Int)),(18,Z9 Z8 x.1),(19,Z9 Z8 x.2),(17,Z9 Z8 ((mid+m:Nat):Int)),(16,Z9 Z8 mid),(0,Fw bx),(1,Z9 Z8 a),(2,Z9 Z8 m),(3,Z9 Z8 b)])
  (fun _=>Bo bx g k o ts rest) (fun x=>x.2-x.1) (ah,ad) ⟨AI _,am,AI _,.inl rfl,.inl rfl⟩ (body:=?_)
 rintro⟨s,r⟩ ⟨au,bu,av,f1,f2⟩;dsimp only at au bu av f1 f2⊢;by_cases a1:s<r
 ·have bf:=Vp s r;generalize hh:(s+r)/2=c at bf;have a6:s≤c∧c<r:=oM;have b9:mid+m-1-c<b:=by split at ac<;>omega
  have e6:AL .i64 ((s:Int)+(r:Int))=((s+r:Nat):Int):=by rw[←DE];exact Ah oM
  have e7:AL .i64 (((mid+m-1:Nat):Int)-(c:Int))=((mid+m-1-c:Nat):Int):=by rw[Ah oM];omega
  have hL:=Vn h bx o rest (mid+m-1-c) c oM oM;cases hl:ltO o (at_ ts (mid+m-1-c)) (at_ ts c) with
  |true=>
   rw[hl] at hL;repeat(first|(refine st ?_;intros)|refine cq hL ?_)
   exact Dn.round (s,c) ⟨au,oM,oM,f1,.inr hl⟩ oD
  |false=>
   rw[hl] at hL;repeat(first|(refine st ?_;intros)|refine cq hL ?_)
   exact Dn.round (c+1,r) ⟨oM,oM,av,.inr (by dsimp only;rw[show mid+m-(c+1)=mid+m-1-c by omega];simpa using hl),f2⟩ oD
 obtain rfl:s=r:=by omega
 obtain⟨e,he⟩:∃e,e=mid+m-s:=⟨_,rfl⟩
 have an:=fun (us:List T5) hr=>rK ay (l1:=us) aw ax s1 s2 a9.symm rfl he ac ab au av f1 f2 hr;have bv:a≤s∧s≤m∧m≤e∧e≤b∧s≤mid∧mid≤e∧mid-s=e-m:=by split at ac<;>split at ab<;>omega
 clear f1 f2 au av a1 ac ab am bc;obtain⟨b1,b2,b3,b4,b5,b6,b7⟩:=bv;have e6:AL .i64 (((mid+m:Nat):Int)-(s:Int))=(e:Int):=by rw[Ah oM];omega
 repeat(first|(refine stn ?_;intros)|refine cq hL ?_)
 apply G.seq;repeat(first|(refine stn ?_;intros)|refine cq hL ?_)
 apply G.seq;repeat(first|(refine stn ?_;intros)|refine cq hL ?_)
 apply G.seq;repeat(first|(refine stn ?_;intros)|refine cq hL ?_)
 refine G.cut (D':=[]) (X:=List T5) (fun us=>Dk g k n us∧Srt o ts us a b∧∀q,at_ us q=Ci ts s m e q) (fun _=>[(22,Z9 Z8 e),(18,Z9 Z8 s),(16,Z9 Z8 mid),(0,Fw bx),(1,Z9 Z8 a),(3,Z9 Z8 b)])
  (fun us=>Bo bx g k o us rest) ?_ ?_
 ·by_cases hr:s<m
  ·by_cases ao:m<e
   ·have hR:=rR bx g k n o rest ts h s m e hr ao oM;repeat(first|(refine st ?_;intros)|refine cq hL ?_)
    refine cL hR ?_;rintro _ _ ⟨rfl,us,rfl,aa,hq⟩;try dsimp only[AA,AB]
    repeat(first|(refine st ?_;intros)|refine cq hL ?_)
    exact Dn.meet us ⟨aa,Srt.rot b2 b3 oM (by rw[aa.len,ak]) hq (an us hq).1 b1 b4,hq⟩
   ·repeat(first|(refine st ?_;intros)|refine cq hL ?_)
    exact Dn.meet ts ⟨h,Srt.refl _ _ _ _,fun q=>(Vm ts (.inr oM) b2 b3 q).symm⟩
  ·repeat(first|(refine st ?_;intros)|refine cq hL ?_)
   exact Dn.meet ts ⟨h,Srt.refl _ _ _ _,fun q=>(Vm ts (.inl oM) b2 b3 q).symm⟩
 rintro us ⟨aa,bg,hq⟩;obtain⟨-,⟨q1,q2,q3,q4⟩,hx,-⟩:=an us hq;clear an;refine G.cut (D':=[]) (X:=List T5) (fun vs=>Dk g k n vs∧Srt o us vs a mid∧Seg (ltO o) vs a mid) (fun _=>[(22,Z9 Z8 e),(18,Z9 Z8 s),(16,Z9 Z8 mid),(0,Fw bx),(1,Z9 Z8 a),(3,Z9 Z8 b)])
  (fun vs=>Bo bx g k o vs rest) ?_ ?_
 ·by_cases hr:a<s
  ·by_cases ao:s<mid
   ·have hR:=ih us aa a s mid oM hr ao oM q1 q2;repeat(first|(refine st ?_;intros)|refine cq hL ?_)
    refine cL hR ?_;rintro _ _ ⟨rfl,vs,rfl,ai,aj,aq⟩;try dsimp only[AA,AB]
    repeat(first|(refine st ?_;intros)|refine cq hL ?_)
    exact Dn.meet vs ⟨ai,aj,aq⟩
   ·obtain rfl:s=mid:=by omega
    repeat(first|(refine st ?_;intros)|refine cq hL ?_)
    exact Dn.meet us ⟨aa,Srt.refl _ _ _ _,q1⟩
  ·obtain rfl:a=s:=by omega
   repeat(first|(refine st ?_;intros)|refine cq hL ?_)
   exact Dn.meet us ⟨aa,Srt.refl _ _ _ _,q2⟩
 rintro vs ⟨ai,aj,aq⟩;have bh:=q3.out aj.2 (.inr (AI _));have bi:=q4.out aj.2 (.inr oM);have a3:=rL hx aj.2;have a4:=bg.trans (aj.wide (AI _) oM);by_cases hr:mid<e
 ·by_cases ao:e<b
  ·have hR:=ih vs ai mid e b oM hr ao oM bh bi;repeat(first|(refine st ?_;intros)|refine cq hL ?_)
   refine cL hR ?_;rintro _ _ ⟨rfl,ws,rfl,bk,a5,bz⟩;try dsimp only[AA,AB]
   repeat(first|(refine st ?_;intros)|refine cq hL ?_)
   (refine dE (Bo bx g k o ws rest) ?_;exact⟨rfl,ws,rfl,bk,a4.trans (a5.wide oM (AI _)),Zd (aq.out a5.2 (.inl (AI _))) bz (rM a3 a5.2)⟩)
  ·obtain rfl:e=b:=by omega
   repeat(first|(refine st ?_;intros)|refine cq hL ?_)
   (refine dE (Bo bx g k o vs rest) ?_;exact⟨rfl,vs,rfl,ai,a4,Zd aq bh a3⟩)
 ·obtain rfl:mid=e:=by omega
  repeat(first|(refine st ?_;intros)|refine cq hL ?_)
  (refine dE (Bo bx g k o vs rest) ?_;exact⟨rfl,vs,rfl,ai,a4,Zd aq bi a3⟩)
end
end Go.Proofs.YtaofijjjheiknaaGreat
namespace Go.Srt
variable {α:Type} {lt:α→α→Bool} [Inhabited α]
def Blk (lt:α→α→Bool) (l:List α) (bs n:Nat):Prop:=∀q,Seg lt l (q*bs) (min ((q+1)*bs) n)
def Mid (lt:α→α→Bool) (l:List α) (bs n q:Nat):Prop:=(∀p,p<q→Seg lt l (p*(2*bs)) ((p+1)*(2*bs)))∧∀p,2*q≤p→Seg lt l (p*bs) (min ((p+1)*bs) n)
theorem Seg.sub {l:List α} {a b c d:Nat} (h:Seg lt l a b) (h1:a≤c) (h2:d≤b):Seg lt l c d:=fun i j i1 i2 i3=>h i j oM i2 oM
theorem Seg.none {l:List α} {a b:Nat} (h:b≤a):Seg lt l a b:=fun i j i1 i2 i3=>by omega
theorem mul2 (q bs:Nat):(2*q)*bs=q*(2*bs):=by rw[Nat.mul_comm 2 q,Nat.mul_assoc]
theorem rT {l:List α} {bs n:Nat} (h:Blk lt l bs n):Mid lt l bs n 0:=⟨fun p hp=>by omega,fun p _=>h p⟩
theorem mid_get {l:List α} {bs n q a:Nat} (h:Mid lt l bs n q) (ha:a=q*(2*bs)) (hn:a+bs≤n):Seg lt l a (a+bs)∧Seg lt l (a+bs) (min (a+2*bs) n):=by have h1:=h.2 (2*q) (Nat.le_refl _);have h2:=h.2 (2*q+1) oM;have e:=mul2 q bs;rw[Nat.succ_mul (2*q),e,←ha] at h1;rw[Nat.succ_mul (2*q+1),Nat.succ_mul (2*q),e,←ha] at h2;refine⟨h1.sub (Nat.le_refl _) oM,h2.sub (Nat.le_refl _) oM⟩
theorem rU {l l':List α} {bs n q a b:Nat} (h:Mid lt l bs n q) (ha:a=q*(2*bs)) (hb:b=a+2*bs) (hi:Ins l l' a b) (hs:Seg lt l' a b):Mid lt l' bs n (q+1):=by
 refine⟨fun p hp=>?_,fun p hp=>?_⟩
 ·by_cases aa:p=q
  ·subst aa;rw[Nat.succ_mul p,←ha,←hb];exact hs
  ·refine(h.1 p oM).out hi (.inl ?_);rw[ha];exact Nat.mul_le_mul_right _ oM
 ·refine(h.2 p oM).out hi (.inr ?_);have:=Nat.mul_le_mul_right bs hp;rw[show 2*(q+1)=2*q+1+1 by omega,Nat.succ_mul (2*q+1),Nat.succ_mul (2*q),mul2,←ha] at this;omega
theorem gH {l l':List α} {bs n q a:Nat} (h:Mid lt l bs n q) (ha:a=q*(2*bs)) (hn:n<a+2*bs) (hi:Ins l l' a n) (hs:Seg lt l' a n):Blk lt l' (2*bs) n:=by
 intro p;by_cases aa:p<q
 ·refine(h.1 p aa).out hi (.inl ?_)|>.sub (Nat.le_refl _) oM
  rw[ha];exact Nat.mul_le_mul_right _ oM
 ·by_cases hp:p=q
  ·subst hp;rw[←ha];exact hs.sub (Nat.le_refl _) oM
  ·refine Seg.none ?_;have:=Nat.mul_le_mul_right (2*bs) (show q+1≤p by omega);rw[Nat.succ_mul q,←ha] at this;omega
theorem rV {l:List α} {bs n q a:Nat} (h:Mid lt l bs n q) (ha:a=q*(2*bs)) (hn:n≤a+bs) (hb:0<bs):Blk lt l (2*bs) n:=by refine gH h ha oM (Ins.refl _ _ _) ?_;have h1:=h.2 (2*q) (Nat.le_refl _);have e:=mul2 q bs;rw[Nat.succ_mul (2*q),e,←ha] at h1;exact h1.sub (Nat.le_refl _) oM
theorem rW {l:List α} {bs n:Nat} (h:Blk lt l bs n) (hb:n≤bs):Seg lt l 0 n:=by have:=h 0;exact this.sub oM oM
theorem rX {l l':List α} {n c a:Nat} (h:∀p,p<c→Seg lt l (p*20) ((p+1)*20)) (ha:a=c*20) (hn:n<a+20) (hi:Ins l l' a n) (hs:Seg lt l' a n):Blk lt l' 20 n:=by
 intro p;by_cases aa:p<c
 ·exact(h p aa).out hi (.inl oM)|>.sub (Nat.le_refl _) oM
 ·by_cases hp:p=c
  ·subst hp;rw[←ha];exact hs.sub (Nat.le_refl _) oM
  ·exact Seg.none oM
end Go.Srt
namespace Go.Proofs.YtaofijjjheiknaaGreat
open Go.SL Go.Spc Go.Tup Go.Srt
section
variable (bx:Nat) (g:Gr) (k n:Nat) (o:T5) (rest:List Int)
theorem rY (ts:List T5) (h:Dk g k n ts):Ct AC 243 [Fw bx,Z9 Z8 n] (Bo bx g k o ts rest) fun v H'=> v= .tuple #[]∧∃ts',H'=Bo bx g k o ts' rest∧Dk g k n ts'∧Srt o ts ts' 0 n∧Seg (ltO o) ts' 0 n:=by
 have al:=h.n_le;refine cG func243 fun _=>?_;repeat(refine sA ?_;intros)
 refine G.loop (X:=Nat×List T5) (fun x=>x.1*20≤n∧Dk g k n x.2∧Srt o ts x.2 0 n∧∀p,p<x.1→Seg (ltO o) x.2 (p*20) ((p+1)*20))
  (fun x=>[(6,Z9 Z8 ((x.1*20+20:Nat):Int)),(5,Z9 Z8 ((x.1*20:Nat):Int)),(4,Z9 Z8 20),(0,Fw bx),(1,Z9 Z8 n)])
  (fun x=>Bo bx g k o x.2 rest) (fun x=>n+20-x.1*20) (0,ts) ⟨oD,h,Srt.refl _ _ _ _,fun p hp=>by dsimp only at hp;omega⟩ (body:=?_)
 rintro⟨c,us⟩ ⟨hc,aa,hs,hq⟩;dsimp only at hc aa hs hq⊢;generalize ha:c*20=a at hc⊢;by_cases hb:a+20≤n
 ·have hI:=gF bx g k n o rest us aa a (a+20) oM hb;have e1:AL .i64 (((a+20:Nat):Int)+20)=(((c+1)*20+20:Nat):Int):=by rw[Ah oM];omega
  repeat(refine sA ?_;intros)
  refine cL hI ?_;rintro _ _ ⟨rfl,vs,rfl,ab,ac,ad⟩;repeat(refine sA ?_;intros)
  have e2:a+20=(c+1)*20:=oM;refine Dn.round (c+1,vs) ⟨oD,ab,hs.trans (ac.wide oM hb),fun p hp=>?_⟩ oD ?_ oA4
  ·by_cases aj:p=c
   ·subst aj;rw[show(p+1)*20=a+20 by omega,ha];exact ad
   ·exact(hq p (by dsimp only at hp;omega)).out ac.2 (.inl (by dsimp only at hp;omega))
  ·rw[e2];exact oA7
 have hI:=gF bx g k n o rest us aa a n hc (AI _);repeat(refine sA ?_;intros)
 refine cL hI ?_;rintro _ _ ⟨rfl,vs,rfl,ab,ac,ad⟩;try dsimp only[AA,AB]
 have hB:=rX hq ha.symm oM ac.2 ad;have ae:=hs.trans (ac.wide (AU _) (AI _));clear ac ad hs aa hq hI;repeat(refine sA ?_;intros)
 refine G.loop (X:=Nat×List T5) (fun x=>0<x.1∧x.1≤2000000020∧Dk g k n x.2∧Srt o ts x.2 0 n∧Blk (ltO o) x.2 x.1 n)
  (fun x=>[(4,Z9 Z8 x.1),(0,Fw bx),(1,Z9 Z8 n)])
  (fun x=>Bo bx g k o x.2 rest) (fun x=>n-x.1) (20,vs) ⟨oD,oD,ab,ae,hB⟩ (body:=?_)
 clear hB ae ab vs us;rintro⟨bs,us⟩ ⟨ag,ak,aa,hs,hB⟩;dsimp only at ag ak aa hs hB⊢;by_cases am:bs<n
 ·have e1:AL .i64 (2*(bs:Int))=((2*bs:Nat):Int):=by rw[Ah oM];omega
  have an:AL .i64 ((bs:Int)*2)=((2*bs:Nat):Int):=by rw[Ah oM];omega
  repeat(refine sA ?_;intros)
  refine G.loop (X:=Nat×List T5) (fun x=>x.1*(2*bs)≤n∧Dk g k n x.2∧Srt o ts x.2 0 n∧Mid (ltO o) x.2 bs n x.1)
   (fun x=>[(6,Z9 Z8 ((x.1*(2*bs)+2*bs:Nat):Int)),(5,Z9 Z8 ((x.1*(2*bs):Nat):Int)),(4,Z9 Z8 bs),(0,Fw bx),(1,Z9 Z8 n)])
   (fun x=>Bo bx g k o x.2 rest) (fun x=>n+2*bs-x.1*(2*bs)) (0,us) ⟨by simp,aa,hs,rT hB⟩ (by simp only[Nat.zero_mul,Nat.zero_add];exact oA7) oA4 ?_
  clear aa hs hB;rintro⟨q,us⟩ ⟨ah,aa,hs,hM⟩;dsimp only at ah aa hs hM⊢;have ai:(q+1)*(2*bs)=q*(2*bs)+2*bs:=BH _ _;generalize ha:q*(2*bs)=a at ah ai⊢;have e2:AL .i64 ((a:Int)+(bs:Int))=((a+bs:Nat):Int):=by rw[←DE];exact Ah oM
  by_cases hb:a+2*bs≤n
  ·obtain⟨g1,g2⟩:=mid_get hM ha.symm oM;rw[Nat.min_eq_left hb] at g2;have hI:=gG bx g k n o rest (2*bs) us aa a (a+bs) (a+2*bs) oM oM oM hb g1 g2;have e3:AL .i64 (((a+2*bs:Nat):Int)+((2*bs:Nat):Int))=(((q+1)*(2*bs)+2*bs:Nat):Int):=by rw[Ah oM];omega
   repeat(refine sA ?_;intros)
   refine cL hI ?_;rintro _ _ ⟨rfl,vs,rfl,ab,ac,ad⟩;repeat(refine sA ?_;intros)
   refine Dn.round (q+1,vs) ⟨oD,ab,hs.trans (ac.wide oM hb),rU hM ha.symm rfl ac.2 ad⟩ oD ?_ oA4;rw[←ai];exact oA7
  ·by_cases hm:a+bs<n
   ·obtain⟨g1,g2⟩:=mid_get hM ha.symm oM;have hI:=gG bx g k n o rest n us aa a (a+bs) n oM oM oM (AI _) g1 (g2.sub (AI _) oM);repeat(refine sA ?_;intros)
    refine cL hI ?_;rintro _ _ ⟨rfl,vs,rfl,ab,ac,ad⟩;repeat(refine sA ?_;intros)
    exact Dn.round (2*bs,vs) ⟨oD,oD,ab,hs.trans (ac.wide oM (AI _)),gH hM ha.symm oM ac.2 ad⟩ oD
   ·repeat(refine sA ?_;intros)
    exact Dn.round (2*bs,us) ⟨oD,oD,aa,hs,rV hM ha.symm oM ag⟩ oD
 ·repeat(refine sA ?_;intros)
  (refine dE (Bo bx g k o us rest) ?_;exact⟨rfl,us,rfl,aa,hs,rW hB oM⟩)
theorem rZ (ts:List T5) (h:Dk g k n ts):Ct AC 231 [Fw bx] (Bo bx g k o ts rest) fun v H'=> v= .tuple #[]∧∃ts',H'=Bo bx g k o ts' rest∧Dk g k n ts'∧Go.Srt.Sp (ltO o) false ts ts'∧Sd (ltO o) false ts':=by
 have hN:=rO bx g k o ts rest;rw[h.len] at hN;have hS:=rY bx g k n o rest ts h;refine cG func231 fun _=>?_;repeat(first|(refine st ?_;intros)|refine cq hN ?_)
 refine cL hS ?_;rintro _ _ ⟨rfl,vs,rfl,aa,ab,ac⟩;try dsimp only[AA,AB]
 repeat(first|(refine st ?_;intros)|refine cq hN ?_)
 (refine dE (Bo bx g k o vs rest) ?_;exact⟨rfl,vs,rfl,aa,ab.1,seg_sd (by rw[aa.len];exact ac)⟩)
end
def Dy (o:T5) (once:Bool) (ps:List T5) (t:T5):List T5:=
 match once,ps.getLast? with
 |true,some x=>if Cz o x t=0 then ps else ps++[t]
 |_,_=>ps++[t]
def Lr (ps:List T5) (last:T5) (some:Bool):Prop:=match ps.getLast? with
 |none=>some=false
 | .some x=>some=true∧last=x
theorem Lr.put (ps:List T5) (t:T5):Lr (ps++[t]) t true:=by simp[Lr]
theorem Vq (o:T5) (once:Bool) (ps:List T5) (t:T5):ps.length≤(Dy o once ps t).length∧(Dy o once ps t).length≤ps.length+1:=by
 unfold Dy;split
 ·split<;>simp
 ·simp
def Kx (bw:Nat) (o:T5) (once:Bool) (p:Option Addr) (n cap:Nat) (last:T5) (some:Bool):List Value:=
 [pv bw,Z9 Z8 o.c0,Z9 Z8 o.c1,Z9 Z8 o.c2,Z9 Z8 o.c3,Z9 Z8 o.c4,.bool once,.slice p n cap,
  Z9 Z8 last.c0,Z9 Z8 last.c1,Z9 Z8 last.c2,Z9 Z8 last.c3,Z9 Z8 last.c4,.bool some]
def Fk (bz bw:Nat) (o:T5) (once:Bool) (p:Option Addr) (n cap:Nat) (last:T5) (some:Bool):Aa:=[(bz,row (Kx bw o once p n cap last some) 200)]
theorem gI (bz bw bd ba bs:Nat) (W:Wk) (cd ca cs:Aa) (h:Wc bd ba bs W cd ca cs) (bx first nb k bound:Nat) (g:Gr) (ps:List T5) (cx cb:Aa) (hw:Dh bw bx W first nb k bound g ps cx cb) (Gs:List Gr) (hg:W.α.gs.Perm (g::Gs)) (Lv:List Ext) (hl:Bm first nb Lv W.live) (ai:ps.length<bound) (t:T5) (ht:okT k t) (ah:W.δ.acts≤1000000000000) (o:T5) (once:Bool) (p:Option Addr) (n cap:Nat) (last:T5) (some:Bool) (aa:Lr ps last some):Ct AC 232 [pv bz,pv bx,tv t] [Fk bz bw o once p n cap last some,Ab bw bd ba bs,cd,ca,cs,cx,cb] fun v H'=> ∃cd' ca' cs' W' cx' cb' last' some',H'=[Fk bz bw o once p n cap last' some',Ab bw bd ba bs,cd',ca',cs',cx',cb']∧Wc bd ba bs W' cd' ca' cs'∧Ev W W' ((Dy o once ps t).length/Ad W.δ.size k-ps.length/Ad W.δ.size k) 0∧Ap Lv W W'∧((v=Z9 Z8 0∧W'.α=W.α∧W'.σ=W.σ∧W'.live=W.live∧Dh bw bx W' first nb k bound g (Dy o once ps t) cx' cb'∧Lr (Dy o once ps t) last' some')∨ (v=Z9 Z8 6∧W.δ.fault=0∧W'.δ=W.δ.failed∧W'.α.gs.Perm Gs∧W'.live.Perm Lv∧Lo bx cx')):=by
 have hP:=Vg bw bd ba bs W cd ca cs h bx first nb k bound g ps cx cb hw Gs hg Lv hl ai t ht ah
 have hC:=Ys last.c0 last.c1 last.c2 last.c3 last.c4 t.c0 t.c1 t.c2 t.c3 t.c4 o.c0 o.c1 o.c2 o.c3 o.c4;have aj:Cz ⟨o.c0,o.c1,o.c2,o.c3,o.c4⟩ ⟨last.c0,last.c1,last.c2,last.c3,last.c4⟩ ⟨t.c0,t.c1,t.c2,t.c3,t.c4⟩=Cz o last t:=rfl;rw[aj] at hC;generalize ag:Cz o last t=cm at hC;unfold Fk Kx;by_cases ac:once=true∧some=true∧cm=0
 ·obtain⟨rfl,rfl,rfl⟩:=ac;have ad:Dy o true ps t=ps:=by
   unfold Dy;unfold Lr at aa;cases hgl:ps.getLast? with
   |none=>rw[hgl] at aa;simp at aa
   |some x=>
    rw[hgl] at aa;obtain⟨_,rfl⟩:=aa;simp[ag]
  rw[ad];refine cG func232 fun _=>?_;repeat(first|(refine st ?_;intros)|refine G.draw (id:=1) [(20,.quiet)] (h:=?_)|refine cq hC ?_)
  (refine dP [[(bz,row [pv bw,Z9 Z8 o.c0,Z9 Z8 o.c1,Z9 Z8 o.c2,Z9 Z8 o.c3,Z9 Z8 o.c4,.bool true,.slice p n cap,Z9 Z8 last.c0,Z9 Z8 last.c1,Z9 Z8 last.c2,Z9 Z8 last.c3,Z9 Z8 last.c4,.bool true] 200)],Ab bw bd ba bs,cd,ca,cs,cx,cb] ?_;exact⟨cd,ca,cs,W,cx,cb,last,true,rfl,h,(Ev.refl W).weak (AU _) (AI _),Ap.refl _ _,.inl ⟨rfl,rfl,rfl,rfl,hw,aa⟩⟩)
 have ad:Dy o once ps t=ps++[t]:=by
  unfold Dy;unfold Lr at aa;cases once with
  |false=>rfl
  |true=>
   cases hgl:ps.getLast? with
   |none=>rfl
   |some x=>
    rw[hgl] at aa;obtain⟨rfl,rfl⟩:=aa;have:¬cm=0:=fun e=>ac ⟨rfl,rfl,e⟩;simp[ag,this]
 rw[ad];have ae:=Lr.put ps t;rw[AH,List.length_singleton];have ak:tv t= .agg #[Z9 Z8 t.c0,Z9 Z8 t.c1,Z9 Z8 t.c2,Z9 Z8 t.c3,Z9 Z8 t.c4]:=rfl;rw[ak] at hP⊢;cases ho:once with
 |false=>
  refine cG func232 fun _=>?_;repeat(first|(refine st ?_;intros)|refine G.draw (id:=1) [(20,.quiet)] (h:=?_)|refine cq hC ?_)
  refine cL hP ?_;rintro _ _ ⟨cd',ca',cs',W',cx',cb',rfl,hW,hE,hK,ab⟩;try dsimp only[AA,AB]
  repeat(first|(refine st ?_;intros)|refine G.draw (id:=1) [(20,.quiet)] (h:=?_)|refine cq hC ?_)
  (refine dP [[(bz,row [pv bw,Z9 Z8 o.c0,Z9 Z8 o.c1,Z9 Z8 o.c2,Z9 Z8 o.c3,Z9 Z8 o.c4,.bool false,.slice p n cap,Z9 Z8 t.c0,Z9 Z8 t.c1,Z9 Z8 t.c2,Z9 Z8 t.c3,Z9 Z8 t.c4,.bool true] 200)],Ab bw bd ba bs,cd',ca',cs',cx',cb'] ?_;exact⟨cd',ca',cs',W',cx',cb',t,true,rfl,hW,hE,hK,ab.imp (fun ⟨a1,a2,a3,a4,a5⟩=>⟨a1,a2,a3,a4,a5,ae⟩) id⟩)
 |true=>
  cases hs:some with
  |false=>
   refine cG func232 fun _=>?_;repeat(first|(refine st ?_;intros)|refine G.draw (id:=1) [(20,.quiet)] (h:=?_)|refine cq hC ?_)
   refine cL hP ?_;rintro _ _ ⟨cd',ca',cs',W',cx',cb',rfl,hW,hE,hK,ab⟩;try dsimp only[AA,AB]
   repeat(first|(refine st ?_;intros)|refine G.draw (id:=1) [(20,.quiet)] (h:=?_)|refine cq hC ?_)
   (refine dP [[(bz,row [pv bw,Z9 Z8 o.c0,Z9 Z8 o.c1,Z9 Z8 o.c2,Z9 Z8 o.c3,Z9 Z8 o.c4,.bool true,.slice p n cap,Z9 Z8 t.c0,Z9 Z8 t.c1,Z9 Z8 t.c2,Z9 Z8 t.c3,Z9 Z8 t.c4,.bool true] 200)],Ab bw bd ba bs,cd',ca',cs',cx',cb'] ?_;exact⟨cd',ca',cs',W',cx',cb',t,true,rfl,hW,hE,hK,ab.imp (fun ⟨a1,a2,a3,a4,a5⟩=>⟨a1,a2,a3,a4,a5,ae⟩) id⟩)
  |true=>
   have al:¬cm=0:=fun e=>ac ⟨ho,hs,e⟩;refine cG func232 fun _=>?_;repeat(first|(refine st ?_;intros)|refine G.draw (id:=1) [(20,.quiet)] (h:=?_)|refine cq hC ?_)
   refine cL hP ?_;rintro _ _ ⟨cd',ca',cs',W',cx',cb',rfl,hW,hE,hK,ab⟩;try dsimp only[AA,AB]
   repeat(first|(refine st ?_;intros)|refine G.draw (id:=1) [(20,.quiet)] (h:=?_)|refine cq hC ?_)
   (refine dP [[(bz,row [pv bw,Z9 Z8 o.c0,Z9 Z8 o.c1,Z9 Z8 o.c2,Z9 Z8 o.c3,Z9 Z8 o.c4,.bool true,.slice p n cap,Z9 Z8 t.c0,Z9 Z8 t.c1,Z9 Z8 t.c2,Z9 Z8 t.c3,Z9 Z8 t.c4,.bool true] 200)],Ab bw bd ba bs,cd',ca',cs',cx',cb'] ?_;exact⟨cd',ca',cs',W',cx',cb',t,true,rfl,hW,hE,hK,ab.imp (fun ⟨a1,a2,a3,a4,a5⟩=>⟨a1,a2,a3,a4,a5,ae⟩) id⟩)
theorem gJ (o x t:T5):eqv (ltO o) x t=true↔Cz o x t=0:=by rw[Gm];have:=Mm o x t;simp only[ltO,decide_eq_false_iff_not];omega
structure Em (o:T5) (once:Bool) (l ps rest:List T5):Prop where
 sd:Sd (ltO o) once ps
 sp:Go.Srt.Sp (ltO o) once l (ps++rest)
 le:∀x∈ps,∀y∈rest,ltO o y x=false
theorem Em.start {o:T5} {once:Bool} {l rest:List T5} (h:Go.Srt.Sp (ltO o) once l rest):Em o once l [] rest:=⟨DH,h,fun x hx=>by simp at hx⟩
theorem Em.turn {o:T5} {once:Bool} {l ps rest aa:List T5} (h:Em o once l ps rest) (hs:Go.Srt.Sp (ltO o) once rest aa) (hm:∀y∈aa,y∈rest):Em o once l ps aa:=
 ⟨h.sd,h.sp.trans (Go.Srt.Sp.app (Go.Srt.Sp.refl _ _) hs),fun x hx y hy=>h.le x hx y (hm y hy)⟩
theorem Em.fin {o:T5} {once:Bool} {l ps:List T5} (h:Em o once l ps []):Sd (ltO o) once ps∧Go.Srt.Sp (ltO o) once l ps:=⟨h.sd,by have:=h.sp;rwa[AQ] at this⟩
theorem sE {o:T5} {ps rest:List T5} {z t:T5} (hz:z∈ps) (he:eqv (ltO o) z t=true):Go.Srt.Sp (ltO o) true (ps++t::rest) (ps++rest):=fun c=>by
 rw[CD,CD,List.filter_cons];cases hct:eqv (ltO o) c t with
 |false=>simp
 |true=>
  have h1:eqv (ltO o) c z=true:=Vl (Ee o) hct (Vk he);have h2:z∈ps.filter (eqv (ltO o) c):=List.mem_filter.2 ⟨hz,h1⟩;simp only[Gg,if_true];cases hf:ps.filter (eqv (ltO o) c) with
  |nil=>rw[hf] at h2;simp at h2
  |cons a b=>simp
theorem Em.step {o:T5} {once:Bool} {l ps rest:List T5} {t:T5} (h:Em o once l ps (t::rest)) (ac:∀y∈rest,ltO o y t=false):Em o once l (Dy o once ps t) rest:=by
 have ah:=Ee o;have aa:(once=true→∀z,ps.getLast? =some z→Cz o z t≠0)→Em o once l (ps++[t]) rest:=by
  intro hz;refine⟨?_,by have:=h.sp;simpa using this,?_⟩
  ·unfold Sd;rw[B8];refine⟨h.sd,List.pairwise_singleton _ _,?_⟩;intro x hx y hy;simp only[AW] at hy;subst hy;have ai:=h.le x hx y AE;cases once with
   |false=>simpa using ai
   |true=>
    rw[if_pos rfl];obtain⟨qs,z,rfl⟩:∃qs z,ps=qs++[z]:=by
     rcases List.eq_nil_or_concat ps with rfl|⟨qs,z,rfl⟩
     ·simp at hx
     ·exact⟨qs,z,by simp⟩
    have aj:=hz rfl z oA19;have ad:=h.le z oA19 y AE;have ak:ltO o z y=true:=by
     cases hc:ltO o z y with
     |true=>rfl
     |false=>exact absurd ((gJ o z y).1 (Gm.2 ⟨hc,ad⟩)) aj
    rcases AS.1 hx with hx|hx
    ·have ab:=h.sd;unfold Sd at ab;rw[B8] at ab;have ae:=ab.2.2 x hx z oA19;rw[if_pos rfl] at ae;cases hc:ltO o x y with
     |true=>rfl
     |false=>
      have:=ah.ntrans _ _ _ hc ad;rw[ae] at this;cases this
    ·simp only[AW] at hx;subst hx;exact ak
  ·intro x hx y hy;rcases AS.1 hx with hx|hx
   ·exact h.le x hx y (AF _ hy)
   ·simp only[AW] at hx;subst hx;exact ac y hy
 unfold Dy;cases once with
 |false=>exact aa (fun e=>by cases e)
 |true=>
  cases hgl:ps.getLast? with
  |none=>exact aa (fun _ z hz=>by rw[hgl] at hz;cases hz)
  |some z=>
   dsimp only;split
   ·rename_i hc;exact⟨h.sd,h.sp.trans (sE (List.mem_of_getLast? hgl) ((gJ o z t).2 hc)),fun x hx y hy=>h.le x hx y (AF _ hy)⟩
   ·rename_i hc;exact aa (fun _ z' ag=>by rw[hgl] at ag;cases ag;exact hc)
def Fx (o:T5) (once:Bool) (l:List T5):List T5:=l.foldl (Dy o once) []
theorem sF {o:T5} {once:Bool} {l:List T5} {i:Nat} (h:i<l.length):Fx o once (l.take (i+1))=Dy o once (Fx o once (l.take i)) l[i]:=by unfold Fx;rw[BP,List.foldl_append];simp[h]
theorem gK (o:T5) (once:Bool):∀(l:List T5),(Fx o once l).length≤l.length:=by
 intro l;have:∀(l ps:List T5),(l.foldl (Dy o once) ps).length≤ps.length+l.length:=by
  intro l;induction l with
  |nil=>intro ps;simp
  |cons t l ih=>
   intro ps;have h1:=ih (Dy o once ps t);have h2:=(Vq o once ps t).2;simp only[List.foldl_cons,List.length_cons];omega
 have h:=this l [];simpa[Fx] using h
theorem Em.all {o:T5} {once:Bool} {l:List T5}:∀{m ps:List T5},Em o once l ps m→Sd (ltO o) false m→Em o once l (m.foldl (Dy o once) ps) []
 |[],_,h,_=>h
 |t::m,ps,h,hs=>by unfold Sd at hs;rw[List.foldl_cons];refine Em.all (ps:=Dy o once ps t) (m:=m) (h.step fun y hy=>?_) (List.Pairwise.of_cons hs);have:=List.rel_of_pairwise_cons hs hy;simpa using this
theorem sH {o:T5} {once:Bool} {l m:List T5} (h:Go.Srt.Sp (ltO o) false l m) (hs:Sd (ltO o) false m):Sd (ltO o) once (Fx o once m)∧Go.Srt.Sp (ltO o) once l (Fx o once m):=
 (Em.all (Em.start h.once_of) hs).fin
structure FillX where
 i:Nat
 cd:Aa
 c1:Aa
 cx:Aa
 cb:Aa
 W:Wk
 ws:List Int
theorem sI {i c k n:Nat} (hk:1≤k) (hc:c=n/k):(i+1)*k≤n↔i<c:=by subst hc;rw[←CN oM];exact⟨fun h=>h,fun h=>h⟩
theorem sJ (bw bd ba bs:Nat) (W:Wk) (cd ca cs:Aa) (h:Wc bd ba bs W cd ca cs) (bx:Nat) (f:Fl) (fts:List T5) (Lv:List Ext) (ag:Be W.δ.disk W.δ.size Lv f fts) (a5:∀e∈Lv,e∈W.live) (g g2:Gr) (Gs:List Gr) (hg:W.α.gs.Perm (g::Gs)) (b4:g2∈Gs) (pos:Nat) (a4:pos≤f.count) (cx cb:Aa) (hr:De bw bx W f fts g pos cx cb) (dc:W.δ.acts≤100000000000) (aa n0:Nat) (o:T5) (ws:List Int) (b5:ws.length=g2.n) (db:g2.n≤1000000000):Ct AC 215 [pv bx,pv aa] [Ab bw bd ba bs,cd,ca,cs,cx,cb,[(aa,row (Gn g2.bb f.width n0 o) 218)],[(g2.br,row (Ag ws) 174)]] fun v H'=> ∃cd' ca' W' cx' cb' ts' ws' m,H'=[Ab bw bd ba bs,cd',ca',cs,cx',cb',[(aa,row (Gn g2.bb f.width m o) 218)],[(g2.br,row (Ag ws') 174)]]∧Wc bd ba bs W' cd' ca' cs∧Ev W W' (Ac W.δ.size f.width (pos+m)-Ac W.δ.size f.width pos) 0∧W'.δ.disk=W.δ.disk∧W'.σ=W.σ∧W'.live=W.live∧ws'.length=g2.n∧ts'=(fts.drop pos).take m∧ws'.take (m*f.width)=Bl f.width ts'∧((v= .tuple #[Z9 Z8 m,Z9 Z8 0]∧m=min (g2.n/f.width) (f.count-pos)∧W'.α=W.α∧De bw bx W' f fts g (pos+m) cx' cb')∨ (v= .tuple #[Z9 Z8 m,Z9 Z8 6]∧W.δ.fault≠-1∧W'.α.gs.Perm Gs∧Kv bx cx'∧pos+m≤f.count)):=by
 obtain⟨⟨b7,dd⟩,de,df⟩:=h.dev.num;have a6:=ag.w1;have az:=ag.w2;have cz:=ag.cnt;have dg:=ag.len;have hp:=Bh b7 a6 az;have a7:g2∈W.α.gs:=hg.mem_iff.2 (AF _ b4);obtain⟨c1,a8⟩:=h.ar.open_ a7;have h':Wc bd ba bs W cd (c1++[g2.obj]) cs:=⟨h.dev,h.ar.perm a8.symm,h.sp,h.nn,h.live⟩
 obtain⟨c,hc⟩:∃c,c=g2.n/f.width:=⟨_,rfl⟩
 have dh:c*f.width≤g2.n:=by rw[hc];exact DW _ _
 have di:c≤g2.n:=by rw[hc];exact CW _ _
 rw[←hc];have a9:=fun i=>sI (i:=i) a6 hc;refine Ct.permH (H2:=[Ab bw bd ba bs,cd,c1,[g2.obj],cs,cx,cb,[(aa,row (Gn g2.bb f.width n0 o) 218)],[(g2.br,row (Ag ws) 174)]]) ?_ ?_
 ·unfold Gn Gr.obj;refine cG func215 fun _=>?_;repeat(refine sv ?_;intros)
  refine G.loop (X:=FillX) (fun x=>x.i≤c∧pos+x.i≤f.count∧Wc bd ba bs x.W x.cd (x.c1++[g2.obj]) cs∧Ev W x.W (Ac W.δ.size f.width (pos+x.i)-Ac W.δ.size f.width pos) 0∧x.W.δ.disk=W.δ.disk∧x.W.σ=W.σ∧x.W.live=W.live∧x.W.α=W.α∧
    De bw bx x.W f fts g (pos+x.i) x.cx x.cb∧x.ws.length=g2.n∧x.ws.take (x.i*f.width)=Bl f.width ((fts.drop pos).take x.i))
   (fun _=>[(0,pv bx),(1,pv aa)])
   (fun x=>[Ab bw bd ba bs,x.cd,x.c1,[(g2.bb,row [.slice (some ⟨g2.br,0,none⟩) g2.n g2.n] 177)],cs,x.cx,x.cb,[(aa,row [pv g2.bb,Z9 Z8 f.width,Z9 Z8 x.i,Z9 Z8 o.c0,Z9 Z8 o.c1,Z9 Z8 o.c2,Z9 Z8 o.c3,Z9 Z8 o.c4] 218)],[(g2.br,row (Ag x.ws) 174)]])
   (fun x=>c-x.i) ⟨0,cd,c1,cx,cb,W,ws⟩ ⟨AU _,a4,h',by simpa using Ev.refl W,rfl,rfl,rfl,rfl,hr,b5,by simp⟩ (body:=?_)
  rintro⟨i,am,c2,ah,ai,W2,ab⟩ ⟨bc,be,av,ac,aj,an,ak,al,ao,ad,aq⟩;dsimp only at bc be av ac aj an ak al ao ad aq⊢;have b8:=ac.acts;have bf:=ac.size;have bg:W2.δ.fault=0→W.δ.fault≠-1:=fun e0 e1=>by have:=ac.fault e1;omega
  have dj:Ac W.δ.size f.width (pos+i)≤pos+i:=by unfold Ac;rw[D6 oM];have:=D5 (pos+i) (show 0<Ad W.δ.size f.width by omega);omega
  have dk:(i+1)*f.width≤1000000005:=by have h1:(i+1)*f.width=i*f.width+f.width:=BH _ _;have h2:i*f.width≤c*f.width:=BB _ bc;omega
  have e1:AL .i64 ((i:Int)+1)=((i+1:Nat):Int):=by rw[Ah oM];rfl
  have e2:AL .i64 (((i+1:Nat):Int)*(f.width:Int))=(((i+1)*f.width:Nat):Int):=by rw[←Int.natCast_mul];exact Ah oM
  have bh:=a9 i;generalize bi:(i+1)*f.width=m1 at*;by_cases a0:i<c
  ·have b9:=bh.2 a0;repeat(refine sv ?_;intros)
   apply R1.join (c1:=c2) (c2:=[(g2.bb,row [.slice (some ⟨g2.br,0,none⟩) g2.n g2.n] 177)])
   ·(repeat(first|exact Ae.here|apply Ae.there))
   ·(repeat(first|exact Ae.here|apply Ae.there))
   by_cases dl:pos+i<f.count
   ·have a1:pos+i<fts.length:=oM;have bk:=Qe bw bd ba bs W2 am _ cs av bx f fts Lv (by rw[aj,bf];exact ag) (by rw[ak];exact a5) g Gs (by rw[al];exact hg) (pos+i) ah ai ao fts[pos+i] (AG a1) oM;have cg:tv fts[pos+i]= .agg (Ak fts[pos+i]).toArray:=rfl;rw[cg] at bk;have ci:fts[pos+i]∈fts:=B6 a1;have c5:=ag.fit _ ci;have c6:(Ak fts[pos+i]).length=5:=rfl;have c7:(Ak fts[pos+i]).all Value.oneCell'=true:=rfl;have cj:Bq [Z9 Z8 0,Z9 Z8 0,Z9 Z8 0,Z9 Z8 0,Z9 Z8 0] 0 (Ak fts[pos+i])=Ak fts[pos+i]:=rfl;have a2:(fts.drop pos).take (i+1)=(fts.drop pos).take i++[fts[pos+i]]:=by rw[BP];simp[a1]
    have bp:=Yz fts[pos+i];have cm:=Vf fts[pos+i] f.width;have au:=Kh fts[pos+i] az;generalize dm:Ak fts[pos+i]=tc at*;generalize fts[pos+i]=t at*;refine cL bk ?_;rintro _ _ ⟨aw,bq,W3,ax,ay,rfl,ae,bu,bv,bz,b1,⟨rfl,e6,e9⟩|⟨rfl,e6,e7,e8,e9⟩⟩;try dsimp only[AA,AB]
    ·obtain⟨c3,a3⟩:=ae.ar.open_ (g:=g2) (by rw[e6,al];exact a7);unfold Gr.obj at a3;apply R.open a3
     ·(repeat(first|exact Ae.here|apply Ae.there))
     obtain⟨B,hB⟩:∃B:Nat→List Int,∀j,B j=Fh ab (i*f.width) ((tw f.width t).take j):=⟨_,fun _=>rfl⟩
     have dp:i*f.width+f.width=m1:=by rw[←bi,BH]
     have e3:AL .i64 ((i:Int)*(f.width:Int))=((i*f.width:Nat):Int):=by rw[←Int.natCast_mul];exact Ah oM
     generalize c8:i*f.width=iw at*;have cu:B 0=ab:=by rw[hB,List.take_zero,eR]
     have cv:B f.width=Fh ab iw (tw f.width t):=by rw[hB,A6 oM]
     have b2:∀j,(B j).length=g2.n:=fun j=>by rw[hB,Tl (by rw[BJ,au,ad];omega),ad]
     repeat(refine sv ?_;intros)
     rename_i b6;refine G.loop (X:=Nat) (fun j=>j≤f.width) (fun j=>[(56,Z9 Z8 j),(55,Z9 Z8 f.width),(54,.slice (some ⟨b6,0,none⟩) f.width 5),(0,pv bx),(1,pv aa)])
      (fun j=>[[(b6,row tc 33)],c3,[(g2.bb,row [.slice (some ⟨g2.br,0,none⟩) g2.n g2.n] 177)],Ab bw bd ba bs,aw,cs,ax,ay,[(aa,row [pv g2.bb,Z9 Z8 f.width,Z9 Z8 i,Z9 Z8 o.c0,Z9 Z8 o.c1,Z9 Z8 o.c2,Z9 Z8 o.c3,Z9 Z8 o.c4] 218)],[(g2.br,row (Ag (B j)) 174)]])
      (fun j=>f.width-j) 0 (AU _) oA7 (by rw[cu];exact oA4) ?_
     intro j hj;by_cases cw:j<f.width
     ·have dq:=bp j oM;have c9:(Ag (B j)).set (iw+j) (.int .u64 (wd (t.col j)))=Ag (B (j+1)):=by rw[Th,hB,hB,eS (cm j cw az) (by rw[au,ad];omega)]
      have da:(Ag (B j)).length=g2.n:=by rw[Ni,b2]
      have e4:AL .i64 ((iw:Int)+(j:Int))=((iw+j:Nat):Int):=by rw[←DE];exact Ah oM
      repeat(refine sv ?_;intros)
      exact Dn.round (j+1) oM oM
     ·obtain rfl:j=f.width:=by omega
      repeat(refine sv ?_;intros)
      refine Dn.round ⟨i+1,aw,c3,ax,ay,W3,B f.width⟩ ⟨a0,oD,⟨ae.dev,ae.ar.perm a3.symm,ae.sp,ae.nn,ae.live⟩,?_,bv.trans aj,bz.trans an,b1.trans ak,by rw[e6];exact al,by rw[←Nat.add_assoc];exact e9,b2 _,?_⟩ oD
      ·have:=ac.trans bu;rw[bf] at this;refine this.weak ?_ (AI _);have m1:Ac W.δ.size f.width pos≤Ac W.δ.size f.width (pos+i):=Da oM;have m2:Ac W.δ.size f.width (pos+i)≤Ac W.δ.size f.width (pos+i+1):=Da oM;dsimp only;rw[←Nat.add_assoc];omega
      ·have:=Yx (buf:=ab) (ws:=tw f.width t) (n:=iw) (by rw[au,ad];omega);dsimp only;rw[bi,show m1=iw+(tw f.width t).length by omega,cv,this,a2,Yt,aq];simp[Bl]
    ·repeat(refine sv ?_;intros)
     (refine dP [Ab bw bd ba bs,aw,bq,cs,ax,ay,[(aa,row (Gn g2.bb f.width i o) 218)],[(g2.br,row (Ag ab) 174)]] ?_;refine⟨aw,bq,W3,ax,ay,_,ab,i,rfl,ae,?_,bv.trans aj,bz.trans an,b1.trans ak,ad,rfl,aq,.inr ⟨rfl,bg e6,e8,e9,be⟩⟩);have:=ac.trans bu;exact{this with acts:=⟨this.acts.1,by rw[e7];exact ac.acts.2⟩}
   ·have b3:=Rq bw bx W2 f fts g ah ai (by rw[show f.count=pos+i by omega];exact ao);have hz:tv T5.zero= .agg (Ak T5.zero).toArray:=rfl;rw[hz] at b3;refine cL b3 ?_;rintro _ _ ⟨rfl,rfl⟩;try dsimp only[AA,AB]
    repeat(refine sv ?_;intros)
    (refine dP [Ab bw bd ba bs,am,c2++[(g2.bb,row [.slice (some ⟨g2.br,0,none⟩) g2.n g2.n] 177)],cs,ah,ai,[(aa,row (Gn g2.bb f.width i o) 218)],[(g2.br,row (Ag ab) 174)]] ?_;refine⟨am,_,W2,ah,ai,_,ab,i,rfl,av,ac,aj,an,ak,ad,rfl,aq,.inl ⟨rfl,oM,al,ao⟩⟩)
  ·have b9:¬m1≤g2.n:=fun e=>a0 (bh.1 e);obtain rfl:i=c:=by omega
   repeat(refine sv ?_;intros)
   apply Dn.join (c1:=c2) (c2:=[(g2.bb,row [.slice (some ⟨g2.br,0,none⟩) g2.n g2.n] 177)])
   ·(repeat(first|exact Ae.here|apply Ae.there))
   ·(repeat(first|exact Ae.here|apply Ae.there))
   (refine dP [Ab bw bd ba bs,am,c2++[(g2.bb,row [.slice (some ⟨g2.br,0,none⟩) g2.n g2.n] 177)],cs,ah,ai,[(aa,row (Gn g2.bb f.width i o) 218)],[(g2.br,row (Ag ab) 174)]] ?_;refine⟨am,_,W2,ah,ai,_,ab,i,rfl,av,ac,aj,an,ak,ad,rfl,aq,.inl ⟨rfl,oM,al,ao⟩⟩)
 ·simp only[AX,A4,AQ,AT];refine BI _ (BI _ ?_);rw[←AT c1];exact DF _ a8
def Ai (fs:List Fl):List Value:=fs.flatMap fun f=>[Z9 Z8 f.first,Z9 Z8 f.blocks,Z9 Z8 f.width,Z9 Z8 f.count]
theorem Ls (a b:List Fl):Ai (a++b)=Ai a++Ai b:=by simp[Ai]
def Az (f:Fl) (live:List Ext):List Ext:=if f.blocks=0 then live else f.ext::live
theorem sK {α:Type} {ca c1 g A B X Y:List α} (h:ca.Perm (c1++g)):(ca++(A++(B++(X++Y)))).Perm (c1++(A++(B++(X++(g++Y))))):=by refine(h.append_right _).trans ?_;rw[AT];refine BI _ ?_;refine(List.perm_append_comm_assoc _ _ _).trans (BI _ ?_);refine(List.perm_append_comm_assoc _ _ _).trans (BI _ ?_);exact List.perm_append_comm_assoc _ _ _
structure LayRX where
 i:Nat
 cd:Aa
 c1:Aa
 cs:Aa
 cx:Aa
 cb:Aa
 W:Wk
 last:T5
 some:Bool
theorem lay_ct (bz bw bd ba bs:Nat) (W:Wk) (cd ca cs:Aa) (h:Wc bd ba bs W cd ca cs) (g:Gr) (hg:g∈W.α.gs) (ae k:Nat) (o:T5) (once:Bool) (ts:List T5) (ws:List Int) (cm:ws.length=g.n) (hT:Dk g k ts.length ts) (hw:ws.take (ts.length*k)=Bl k ts) (p:Option Addr) (cap:Nat) (last:T5) (some:Bool) (fs:List Fl) (vc:Aa) (hV:Vec 42 4 p fs.length cap (Ai fs) vc) (hr:W.δ.size≤W.α.room-W.α.used) (dc:W.δ.acts≤100000000000) (hn:ts.length≤100000000) (db:fs.length≤100000000):Ct AC 216 [pv bz,pv ae] [Fk bz bw o once p fs.length cap last some,Ab bw bd ba bs,cd,ca,cs,vc,[(ae,row (Gn g.bb k ts.length o) 218)],[(g.br,row (Ag ws) 174)]] fun v H'=> ∃cd' ca' cs' W' vc' ws' p' cap' last' some' fs',H'=[Fk bz bw o once p' fs'.length cap' last' some',Ab bw bd ba bs,cd',ca',cs',vc',[(ae,row (Gn g.bb k ts.length o) 218)],[(g.br,row (Ag ws') 174)]]∧Wc bd ba bs W' cd' ca' cs'∧Ev W W' (Ac W.δ.size k ts.length) (Ac W.δ.size k ts.length)∧Ap W.live W W'∧W'.α.gs.Perm W.α.gs∧ws'.length=g.n∧Vec 42 4 p' fs'.length cap' (Ai fs') vc'∧((v=Z9 Z8 0∧∃f out,fs'=fs++[f]∧W'.live=Az f W.live∧f.width=k∧f.count≤ts.length∧Be W'.δ.disk W.δ.size [f.ext] f out∧Sd (ltO o) once out∧Go.Srt.Sp (ltO o) once ts out)∨ (v=Z9 Z8 5∧fs'=fs∧big W.σ.free<Ac W.δ.size k ts.length∧W'.live.Perm W.live)∨ (v=Z9 Z8 6∧fs'=fs∧W.δ.fault≠-1∧W'.live.Perm W.live)):=by
 obtain⟨⟨cu,dd⟩,de,df⟩:=h.dev.num;have a8:=hT.k1;have aj:=hT.k5;have hp:=Bh cu a8 aj;obtain⟨c1,bu⟩:=h.ar.open_ hg;have h':Wc bd ba bs W cd (c1++[g.obj]) cs:=⟨h.dev,h.ar.perm bu.symm,h.sp,h.nn,h.live⟩
 have av:ws=Bl k ts++ws.drop (ts.length*k):=by rw[←hw,List.take_append_drop]
 obtain⟨rest,aw⟩:∃rest,rest=ws.drop (ts.length*k):=⟨_,rfl⟩
 rw[←aw] at av;have dg:rest.length+ts.length*k=g.n:=by have:=congrArg List.length av;rw[AH,Nk aj,cm] at this;omega
 subst av;clear aw hw;have hS:=rZ ae g k ts.length o rest ts hT;refine Ct.permH (H2:=[Fk bz bw o once p fs.length cap last some,Ab bw bd ba bs,cd,c1,cs,vc,[(ae,row (Gn g.bb k ts.length o) 218)],[g.obj],[(g.br,row (Ag (Bl k ts++rest)) 174)]]) ?_ ?_
 ·unfold Bo at hS;unfold Fk Kx;generalize a2:[g.obj]=ak at*;refine cG func216 fun _=>?_;repeat(first|(refine sv ?_;intros)|refine cq hA ?_)
  refine cL hS ?_;rintro _ _ ⟨rfl,aa,rfl,a9,cv,cw⟩;try dsimp only[AA,AB]
  clear hS;have ad:=a9.len;obtain⟨e1,e2⟩:=sH (once:=once) cv cw;have dh:=gK o once aa;unfold Gn at*;have cz:=Om bw bd ba bs W cd _ cs h' k ts.length a8 aj hn hr;have bc:=fun i hi=>Zf ae g k o aa rest a8 aj hT.gn (by rw[ad];exact hT.fit) a9.ok i hi;unfold Bo Gn at bc;rw[a2,ad] at bc;rw[ad];repeat(first|(refine sv ?_;intros)|refine cq hA ?_)
  apply R1.join (c1:=c1) (c2:=ak)
  ·(repeat(first|exact Ae.here|apply Ae.there))
  ·(repeat(first|exact Ae.here|apply Ae.there))
  apply R.call
  ·exact rfl
  ·exact cz
  ·exact oA4
  ·exact rfl
  ·exact nle rfl
  rintro _ _ (⟨da,bx,first,g1,cd',ca',cs',W1,cx,cb,rfl,rfl,al,be,e3,e4,e5,e6,e7⟩|⟨bf,rfl,cd',ca',cs',W1,rfl,al,be,e3,e4,e5⟩)
  ·obtain⟨c2,bg⟩:=al.ar.open_ (g:=g) (e4.mem_iff.2 (AF _ hg));rw[a2] at bg;apply R.open bg
   ·(repeat(first|exact Ae.here|apply Ae.there))
   repeat(first|(refine sv ?_;intros)|refine cq hA ?_)
   refine G.loop (X:=LayRX) (fun x=>x.i≤ts.length∧Wc bd ba bs x.W x.cd (x.c1++ak) x.cs∧Ev W x.W ((Fx o once (aa.take x.i)).length/Ad W.δ.size k) (Ac W.δ.size k ts.length)∧Ap W.live W x.W∧x.W.α.gs.Perm (g1::W.α.gs)∧Bm first (Ac W.δ.size k ts.length) W.live x.W.live∧
     Dh bw bx x.W first (Ac W.δ.size k ts.length) k ts.length g1 (Fx o once (aa.take x.i)) x.cx x.cb∧Lr (Fx o once (aa.take x.i)) x.last x.some)
    (fun x=>[(39,Z9 Z8 x.i),(38,Z9 Z8 ts.length),(5,pv bx),(0,pv bz),(1,pv ae)])
    (fun x=>[[(bz,row [pv bw,Z9 Z8 o.c0,Z9 Z8 o.c1,Z9 Z8 o.c2,Z9 Z8 o.c3,Z9 Z8 o.c4,.bool once,.slice p fs.length cap,Z9 Z8 x.last.c0,Z9 Z8 x.last.c1,Z9 Z8 x.last.c2,Z9 Z8 x.last.c3,Z9 Z8 x.last.c4,.bool x.some] 200)],Ab bw bd ba bs,x.cd,x.c1,x.cs,x.cx,x.cb,vc,[(ae,row [pv g.bb,Z9 Z8 k,Z9 Z8 ts.length,Z9 Z8 o.c0,Z9 Z8 o.c1,Z9 Z8 o.c2,Z9 Z8 o.c3,Z9 Z8 o.c4] 218)],ak,[(g.br,row (Ag (Bl k aa++rest)) 174)]])
    (fun x=>ts.length-x.i) ⟨0,cd',c2,cs',cx,cb,W1,last,false⟩
    ⟨AU _,⟨al.dev,al.ar.perm bg.symm,al.sp,al.nn,al.live⟩,by simpa[Fx] using be,fun x _=>by rw[e3],e4,e6,by simpa[Fx] using e7,by simp[Fx,Lr]⟩ (body:=?_)
   rintro⟨i,bv,c3,b1,b2,b3,W2,ab,ag⟩ ⟨hi,bh,ah,ax,ay,a3,a4,b4⟩;dsimp only at hi bh ah ax ay a3 a4 b4⊢;have c5:=ah.acts;have b5:=ah.size;have b6:=gK o once (aa.take i);rw[BJ] at b6;have di:(Fx o once (aa.take i)).length/Ad W.δ.size k≤ts.length:=A5 (CW _ _) oM;have a6:W2.δ.fault=0→W.δ.fault≠-1:=fun e0 e1=>by have:=ah.fault e1;omega
   by_cases b7:i<ts.length
   ·have a5:i<aa.length:=oM;have bi:=gI bz bw bd ba bs W2 bv _ b1 bh bx first _ k ts.length g1 _ b2 b3 a4 W.α.gs ay W.live a3 oM (at_ aa i) (a9.ok _ (by unfold at_;rw[AP,AG a5];exact B6 a5)) oM o once p fs.length cap ab ag b4
    have b8:Dy o once (Fx o once (aa.take i)) (at_ aa i)=Fx o once (aa.take (i+1)):=by rw[sF a5];unfold at_;rw[AP,AG a5];rfl
    rw[b8] at bi;have hA:=bc i b7;unfold Fk Kx at bi;repeat(first|(refine sv ?_;intros)|refine cq hA ?_)
    apply R1.join (c1:=c3) (c2:=ak)
    ·(repeat(first|exact Ae.here|apply Ae.there))
    ·(repeat(first|exact Ae.here|apply Ae.there))
    refine cL bi ?_;rintro _ _ ⟨am,ao,an,W3,bk,b9,ac,aq,rfl,ai,az,a0,⟨rfl,e8,e9,au,a1,bp⟩|⟨rfl,e8,e9,au,a1,bp⟩⟩;try dsimp only[AA,AB]
    ·obtain⟨c4,bq⟩:=ai.ar.open_ (g:=g) (by rw[e8];exact ay.mem_iff.2 (AF _ hg));rw[a2] at bq;apply R.open bq
     ·(repeat(first|exact Ae.here|apply Ae.there))
     repeat(first|(refine sv ?_;intros)|refine cq hA ?_)
     refine Dn.round ⟨i+1,am,c4,an,bk,b9,W3,ac,aq⟩ ⟨b7,⟨ai.dev,ai.ar.perm bq.symm,ai.sp,ai.nn,ai.live⟩,?_,ax.trans a0,by rw[e8];exact ay,by rw[au];exact a3,a1,bp⟩ oD;have:=ah.trans az;rw[b5] at this;refine this.weak ?_ (AI _);have hm:(Fx o once (aa.take i)).length/Ad W.δ.size k≤(Fx o once (aa.take (i+1))).length/Ad W.δ.size k:=B5 (by rw[←b8];exact(Vq _ _ _ _).1);dsimp only;omega
    ·have c6:=rA bx bk bp;repeat(first|(refine sv ?_;intros)|refine cq hA ?_)
     refine cL c6 ?_;rintro _ _ ⟨rfl,rfl⟩;try dsimp only[AA,AB]
     repeat(first|(refine sv ?_;intros)|refine cq hA ?_)
     (refine dP [[(bz,row [pv bw,Z9 Z8 o.c0,Z9 Z8 o.c1,Z9 Z8 o.c2,Z9 Z8 o.c3,Z9 Z8 o.c4,.bool once,.slice p fs.length cap,Z9 Z8 ac.c0,Z9 Z8 ac.c1,Z9 Z8 ac.c2,Z9 Z8 ac.c3,Z9 Z8 ac.c4,.bool aq] 200)],Ab bw bd ba bs,am,ao,an,vc,[(ae,row [pv g.bb,Z9 Z8 k,Z9 Z8 ts.length,Z9 Z8 o.c0,Z9 Z8 o.c1,Z9 Z8 o.c2,Z9 Z8 o.c3,Z9 Z8 o.c4] 218)],[(g.br,row (Ag (Bl k aa++rest)) 174)]] ?_;refine⟨am,ao,an,W3,vc,Bl k aa++rest,p,cap,ac,aq,fs,rfl,ai,?_,ax.trans a0,au,by rw[AH,Nk aj,ad];omega,hV,.inr (.inr ⟨rfl,rfl,a6 e8,a1⟩)⟩);have:=ah.trans az;refine{this with acts:=⟨this.acts.1,?_⟩};rw[e9];refine A5 ah.acts.2 (Nat.add_le_add_left ?_ _);refine A5 (B5 (c:=Ad W.δ.size k) (show _≤ts.length by omega)) ?_;unfold Ac;exact B5 oM
   ·obtain rfl:i=ts.length:=by omega
    have c7:aa.take ts.length=aa:=by rw[←ad];exact List.take_length
    rw[c7] at a4 ah;have cg:=Rp bw bd ba bs W2 bv _ b1 bh bx first _ k ts.length g1 _ b2 b3 a4 W.α.gs ay W.live a3 oM
    rw[b5] at cg;have dj:Ac W.δ.size k (Fx o once aa).length≤Ac W.δ.size k ts.length:=Da oM;have dk:(Fx o once aa).length/Ad W.δ.size k≤Ac W.δ.size k (Fx o once aa).length:=by unfold Ac;exact B5 oM
    repeat(first|(refine sv ?_;intros)|refine cq hA ?_)
    apply R1.join (c1:=c3) (c2:=ak)
    ·(repeat(first|exact Ae.here|apply Ae.there))
    ·(repeat(first|exact Ae.here|apply Ae.there))
    refine cL cg ?_;rintro _ _ ⟨am,ao,an,W3,bk,b9,rfl,ai,az,a0,ci,dl,⟨f,rfl,e8,e9,au,a1⟩|⟨rfl,e8,e9,au⟩⟩;try dsimp only[AA,AB]
    ·have c8:flv f= .agg #[Z9 Z8 f.first,Z9 Z8 f.blocks,Z9 Z8 f.width,Z9 Z8 f.count]:=rfl;rw[c8];repeat(first|(refine sv ?_;intros)|refine cq hA ?_)
     rename_i p' cap' c' c9;have cj:Vec 42 4 p' (fs.length+1) cap' (Ai (fs++[f])) c':=by rw[Ls];exact c9
     have a7:(fs++[f]).length=fs.length+1:=by simp
     rw[←a7] at cj;(refine dP [[(bz,row [pv bw,Z9 Z8 o.c0,Z9 Z8 o.c1,Z9 Z8 o.c2,Z9 Z8 o.c3,Z9 Z8 o.c4,.bool once,.slice p' (fs.length+1) cap',Z9 Z8 ab.c0,Z9 Z8 ab.c1,Z9 Z8 ab.c2,Z9 Z8 ab.c3,Z9 Z8 ab.c4,.bool ag] 200)],Ab bw bd ba bs,am,ao,an,c',[(ae,row [pv g.bb,Z9 Z8 k,Z9 Z8 ts.length,Z9 Z8 o.c0,Z9 Z8 o.c1,Z9 Z8 o.c2,Z9 Z8 o.c3,Z9 Z8 o.c4] 218)],[(g.br,row (Ag (Bl k aa++rest)) 174)]] ?_;refine⟨am,ao,an,W3,c',Bl k aa++rest,p',cap',ab,ag,fs++[f],by rw[a7],ai,?_,ax.trans a0,ci,by rw[AH,Nk aj,ad];omega,cj,.inl ⟨rfl,f,_,rfl,e8,e9,oM,a1,e1,e2⟩⟩);exact(ah.trans az).weak oM (AI _)
    ·repeat(first|(refine sv ?_;intros)|refine cq hA ?_)
     (refine dP [[(bz,row [pv bw,Z9 Z8 o.c0,Z9 Z8 o.c1,Z9 Z8 o.c2,Z9 Z8 o.c3,Z9 Z8 o.c4,.bool once,.slice p fs.length cap,Z9 Z8 ab.c0,Z9 Z8 ab.c1,Z9 Z8 ab.c2,Z9 Z8 ab.c3,Z9 Z8 ab.c4,.bool ag] 200)],Ab bw bd ba bs,am,ao,an,vc,[(ae,row [pv g.bb,Z9 Z8 k,Z9 Z8 ts.length,Z9 Z8 o.c0,Z9 Z8 o.c1,Z9 Z8 o.c2,Z9 Z8 o.c3,Z9 Z8 o.c4] 218)],[(g.br,row (Ag (Bl k aa++rest)) 174)]] ?_;refine⟨am,ao,an,W3,vc,Bl k aa++rest,p,cap,ab,ag,fs,rfl,ai,?_,ax.trans a0,ci,by rw[AH,Nk aj,ad];omega,hV,.inr (.inr ⟨rfl,rfl,a6 e8,au⟩)⟩);exact(ah.trans az).weak oM (AI _)
  ·rw[←a2] at*;repeat(first|(refine sv ?_;intros)|refine cq hA ?_)
   (refine dP [[(bz,row [pv bw,Z9 Z8 o.c0,Z9 Z8 o.c1,Z9 Z8 o.c2,Z9 Z8 o.c3,Z9 Z8 o.c4,.bool once,.slice p fs.length cap,Z9 Z8 last.c0,Z9 Z8 last.c1,Z9 Z8 last.c2,Z9 Z8 last.c3,Z9 Z8 last.c4,.bool false] 200)],Ab bw bd ba bs,cd',ca',cs',vc,[(ae,row [pv g.bb,Z9 Z8 k,Z9 Z8 ts.length,Z9 Z8 o.c0,Z9 Z8 o.c1,Z9 Z8 o.c2,Z9 Z8 o.c3,Z9 Z8 o.c4] 218)],[(g.br,row (Ag (Bl k aa++rest)) 174)]] ?_;refine⟨cd',ca',cs',W1,vc,Bl k aa++rest,p,cap,last,false,fs,rfl,al,be.weak (AU _) (AU _),fun x _=>by rw[e3],e5,by rw[AH,Nk aj,ad];omega,hV,.inr (.inl ⟨rfl,rfl,bf,by rw[e4]⟩)⟩)
 ·simp only[AX,A4,AQ,AT];exact BI _ (BI _ (BI _ (sK bu)))
def Au (fs:List Fl) (live:List Ext):List Ext:=fs.foldl (fun l f=>Az f l) live
theorem Tq (fs:List Fl) (f:Fl) (live:List Ext):Au (fs++[f]) live=Az f (Au fs live):=by simp[Au]
theorem Oq {f:Fl} {a b:List Ext} (h:a.Perm b):(Az f a).Perm (Az f b):=by
 unfold Az;split
 ·exact h
 ·exact h.cons _
theorem Vr {f:Fl} {a:List Ext} {e:Ext} (h:e∈a):e∈Az f a:=by
 unfold Az;split
 ·exact h
 ·exact AF _ h
theorem Ky {fs:List Fl} {a:List Ext} {e:Ext} (h:e∈a):e∈Au fs a:=by
 unfold Au;induction fs generalizing a with
 |nil=>exact h
 |cons f fs ih=>exact ih (Vr h)
theorem Ru {fs:List Fl} {a:List Ext} {f:Fl} (h:f∈fs) (hb:f.blocks≠0):f.ext∈Au fs a:=by
 induction fs generalizing a with
 |nil=>simp at h
 |cons x fs ih=>
  rcases List.mem_cons.1 h with rfl|h
  ·have h1:f.ext∈Az f a:=by unfold Az;rw[if_neg hb];exact AE
   exact Ky (fs:=fs) h1
  ·exact ih h
structure Ek (d:Nat→Option (List Int)) (size k:Nat) (o:T5) (once:Bool) (l:List T5) (rs:List (Fl×List T5)):Prop where
 each:∀r∈rs,r.1.width=k∧Be d size [r.1.ext] r.1 r.2∧Sd (ltO o) once r.2
 sp:Go.Srt.Sp (ltO o) once l (rs.flatMap (·.2))
 pos:l≠[]→∀r∈rs,0<r.1.count
theorem Zh {o:T5} {once:Bool} {a b:List T5} (h:Go.Srt.Sp (ltO o) once a b) (hb:b=[]):a=[]:=by
 subst hb;cases a with
 |nil=>rfl
 |cons x a=>
  have h1:=h x;have h2:eqv (ltO o) x x=true:=Gm.2 ⟨(Ee o).irr _,(Ee o).irr _⟩;rw[List.filter_cons_of_pos h2] at h1;cases once<;>simp[Gg] at h1
theorem Ek.keep {d d':Nat→Option (List Int)} {size k:Nat} {o:T5} {once:Bool} {l:List T5} {rs:List (Fl×List T5)} (h:Ek d size k o once l rs) {live0:List Ext} (hk:∀x,inF (Au (rs.map (·.1)) live0) x→d' x=d x):Ek d' size k o once l rs:=
 ⟨fun r hr=>⟨(h.each r hr).1,(h.each r hr).2.1.keep fun x hx=>hk x (by
   obtain⟨e,he,h1,h2⟩:=hx;simp only[AW] at he;subst he;refine⟨r.1.ext,Ru (List.mem_map.2 ⟨r,hr,rfl⟩) ?_,h1,h2⟩;simp only[Fl.ext] at h1 h2;omega),(h.each r hr).2.2⟩,h.sp,h.pos⟩
theorem Ek.more {d:Nat→Option (List Int)} {size k:Nat} {o:T5} {once:Bool} {l src out:List T5} {rs:List (Fl×List T5)} {f:Fl} (h:Ek d size k o once l rs) (h1:f.width=k) (h2:Be d size [f.ext] f out) (h3:Sd (ltO o) once out) (h4:Go.Srt.Sp (ltO o) once src out) (h5:rs=[]∨(l≠[]∧src≠[])):Ek d size k o once (l++src) (rs++[(f,out)]):=
 ⟨fun r hr=>by
  rcases AS.1 hr with hr|hr
  ·exact h.each r hr
  ·simp only[AW] at hr;subst hr;exact⟨h1,h2,h3⟩,by
  rw[List.flatMap_append];refine Go.Srt.Sp.app h.sp ?_;simpa using h4,fun ab r hr=>by
  have ac:=h2.len;have aa:src≠[]→0<f.count:=fun hs=>by
   rw[←ac];cases out with
   |nil=>exact absurd (Zh h4 rfl) hs
   |cons a b=>simp
  rcases h5 with rfl|⟨h6,h7⟩
  ·have hl:l=[]:=Zh h.sp rfl;subst hl;simp only[AB,AW] at ab hr;subst hr;exact aa ab
  ·rcases AS.1 hr with hr|hr
   ·exact h.pos h6 r hr
   ·simp only[AW] at hr;subst hr;exact aa h7⟩
theorem Dl {s k n:Nat} (hp:1≤Ad s k):Ac s k n≤n:=by unfold Ac;rw[D6 oM];have:=D5 n (show 0<Ad s k by omega);omega
theorem Ev.arena {W W':Wk} {α α8:Ar} {k m:Nat} (h:Ev W W' k m) (h8:α8.room=W'.α.room) (h9:Ev {W' with α:=α8} {W' with α:=α} 0 0):Ev W {W' with α:=α} k m:={h with room:=h9.room.trans (h8.trans h.room)}
theorem S_le {S pos q h:Nat} (hh:1≤h) (hS:S*h≤pos+q*(h-1)):S≤pos+q:=by
 apply BX;intro hn;have h1:(pos+q+1)*h≤S*h:=BB _ oM;have h2:(pos+q+1)*h=pos*h+q*h+h:=by rw[DV,DV,Nat.one_mul]
 have h3:pos≤pos*h:=Nat.le_mul_of_pos_right _ oM;have h4:q*(h-1)≤q*h:=Nat.mul_le_mul_left _ oM;omega
theorem Rv {S pos q h m n:Nat} (hh:1≤h) (hS:S*h≤pos+q*(h-1)) (hn:n=(m+h-1)/h):(S+n)*h≤pos+m+(q+1)*(h-1):=by
 have h1:n*h≤m+h-1:=by rw[hn];exact DW _ _
 rw[DV,BH];omega
structure FormX where
 q:Nat
 pos:Nat
 S:Nat
 n0:Nat
 rs:List (Fl×List T5)
 cd:Aa
 ca:Aa
 cs:Aa
 cx:Aa
 cb:Aa
 vc:Aa
 ws:List Int
 W:Wk
 p:Option Addr
 cap:Nat
 last:T5
 some:Bool
theorem sL (bz bw bd ba bs:Nat) (W:Wk) (cd ca cs:Aa) (h:Wc bd ba bs W cd ca cs) (f:Fl) (fts:List T5) (Lv:List Ext) (cu:Be W.δ.disk W.δ.size Lv f fts) (dw:∀e∈Lv,e∈W.live) (o:T5) (once:Bool) (last:T5) (some:Bool) (hr:5*W.δ.size≤W.α.room-W.α.used) (f8:W.δ.acts≤10000000000) (f9:f.count≤1000000) (L0 c:Nat) (f7:L0=W.α.room-W.α.used) (hc:c=(L0-2*W.δ.size)/f.width):Ct AC 179 [pv bz,flv f] [Fk bz bw o once none 0 0 last some,Ab bw bd ba bs,cd,ca,cs] fun v H'=> ∃cd' ca' cs' W' vc' p' cap' last' some' rs q S l,H'=[Fk bz bw o once p' rs.length cap' last' some',Ab bw bd ba bs,cd',ca',cs',vc']∧Wc bd ba bs W' cd' ca' cs'∧Ev W W' (Ac W.δ.size f.width f.count+S) S∧Ap W.live W W'∧W'.α.gs.Perm W.α.gs∧Vec 42 4 p' rs.length cap' (Ai (rs.map (·.1))) vc'∧W'.live.Perm (Au (rs.map (·.1)) W.live)∧Ek W'.δ.disk W.δ.size f.width o once l rs∧S*Ad W.δ.size f.width≤f.count+q*(Ad W.δ.size f.width-1)∧(q-1)*c≤f.count∧(0<f.count→(q-1)*c<f.count)∧q≤f.count+1∧((v=Z9 Z8 0∧l=fts∧rs≠[]∧rs.length=q∧((rs.map (·.1.count)).sum≤f.count)∧((rs.map (·.1.blocks)).sum≤S))∨(v=Z9 Z8 5∧big W.σ.free<S)∨(v=Z9 Z8 6∧W.δ.fault≠-1)):=by
 obtain⟨⟨ez,ga⟩,gb,gc⟩:=h.dev.num;obtain⟨gd,ge,_,dx⟩:=h.ar.num;have dy:=cu.w1;have dz:=cu.w2;have hp:=Bh ez dy dz;have d0:=cu.len;have d1:=Ol bw bd ba bs W cd ca cs h f fts Lv cu oM;have hD:=Tj bw bd ba bs;have hA:=Rj bw bd ba bs;have e0:flv f= .agg #[Z9 Z8 f.first,Z9 Z8 f.blocks,Z9 Z8 f.width,Z9 Z8 f.count]:=rfl;rw[e0] at d1⊢;unfold Fk Kx;refine Ct.introD func179 rfl ntmps179 (nle rfl) fun _=>?_;dsimp only[Cy,AD];repeat(first|(refine sv ?_;intros)|refine gD ?_|refine cq hD ?_|refine cq hA ?_|refine cq hL ?_|refine cq hSz ?_)
 refine cL d1 ?_;rintro _ _ ⟨bx,g,d2,α1,cx,cb,rfl,rfl,c9,e2,d3,d4,e5⟩;try dsimp only[AA,AB]
 have gf:α1.used=W.α.used+W.δ.size:=by have e1:=c9.ar.num.2.2.2;dsimp only at e1;rw[e1,(d3.map (·.n)).sum_nat,dx,AZ,DJ,d4];omega
 have da:α1.room=W.α.room:=e2.room;have hL:=Vc ba α1 d2 c9.ar;rw[show(α1.room:Int)-(α1.used:Int)=((L0-W.δ.size:Nat):Int) by omega] at hL;have hSz:=Ml bd W.δ cd c9.dev;have eb:AL .i64 (((L0-W.δ.size:Nat):Int)-(W.δ.size:Int))=((L0-2*W.δ.size:Nat):Int):=by rw[Ah oM];omega
 have fa:=Yu ba α1 d2 c9.ar (L0-2*W.δ.size) oM;have gg:(L0-2*W.δ.size)≤1000000000:=oM;generalize hM:L0-2*W.δ.size=M at*;repeat(first|(refine sv ?_;intros)|refine gD ?_|refine cq hD ?_|refine cq hA ?_|refine cq hL ?_|refine cq hSz ?_)
 refine cL fa ?_;rintro _ _ ⟨g2,fb,α2,bk,rfl,fc,fd,db,rfl⟩;try dsimp only[AA,AB]
 repeat(first|(refine sv ?_;intros)|refine gD ?_|refine cq hD ?_|refine cq hA ?_|refine cq hL ?_|refine cq hSz ?_)
 rename_i b3 b8;have fg:c*f.width≤M:=by rw[hc];exact DW _ _
 have gh:3*W.δ.size≤M:=oM;have gi:1≤c:=by rw[hc,CN oM];omega
 have dj:∀α:Ar,∀c',Dw ba α c'→α.gs.Perm (g::g2::W.α.gs)→α.room=W.α.room→W.δ.size≤α.room-α.used:=by intro α c' hA fh fi;have e1:=hA.num.2.2.2;rw[e1,(fh.map (·.n)).sum_nat,AZ,AZ,DJ,DJ,d4,bk,←dx,fi];omega
 refine G.loop (X:=FormX) (fun x=>x.q=x.rs.length∧x.pos=min (x.q*c) f.count∧(x.q=0∨(x.q-1)*c<f.count)∧x.S*Ad W.δ.size f.width≤x.pos+x.q*(Ad W.δ.size f.width-1)∧(x.rs.map (·.1.count)).sum≤x.pos∧(x.rs.map (·.1.blocks)).sum≤x.S∧
   Wc bd ba bs x.W x.cd x.ca x.cs∧Ev W x.W (Ac W.δ.size f.width x.pos+x.S) x.S∧Ap W.live W x.W∧x.W.α.gs.Perm (g::g2::W.α.gs)∧x.W.live.Perm (Au (x.rs.map (·.1)) W.live)∧Ek x.W.δ.disk W.δ.size f.width o once (fts.take x.pos) x.rs∧
   De bw bx x.W f fts g x.pos x.cx x.cb∧Vec 42 4 x.p x.rs.length x.cap (Ai (x.rs.map (·.1))) x.vc∧x.ws.length=g2.n)
  (fun x=>[(8,pv b8),(5,pv bx),(0,pv bz)])
  (fun x=>[[(b8,row [pv g2.bb,Z9 Z8 f.width,Z9 Z8 x.n0,Z9 Z8 o.c0,Z9 Z8 o.c1,Z9 Z8 o.c2,Z9 Z8 o.c3,Z9 Z8 o.c4] 218)],x.ca,[(g2.br,row (Ag x.ws) 174)],Ab bw bd ba bs,x.cd,x.cs,x.cx,x.cb,x.vc,[(bz,row [pv bw,Z9 Z8 o.c0,Z9 Z8 o.c1,Z9 Z8 o.c2,Z9 Z8 o.c3,Z9 Z8 o.c4,.bool once,.slice x.p x.rs.length x.cap,Z9 Z8 x.last.c0,Z9 Z8 x.last.c1,Z9 Z8 x.last.c2,Z9 Z8 x.last.c3,Z9 Z8 x.last.c4,.bool x.some] 200)]])
  (fun x=>f.count-x.pos) ⟨0,0,0,0,[],cd,fb,cs,cx,cb,[],List.replicate M 0,{W with α:=α2},none,0,last,some⟩
  ⟨rfl,by simp,.inl rfl,by simp,by simp,by simp,⟨h.dev,fc,h.sp,h.nn,h.live⟩,by rw[Ro hp];exact⟨rfl,rfl,⟨AI _,AI _⟩,id,by dsimp only;rw[db,da],AI _⟩,fun _ _=>rfl,?_,List.Perm.refl _,⟨by simp,by simpa using Go.Srt.Sp.refl _ _,by simp⟩,e5.move rfl,Vec.nil _ _,by rw[List.length_replicate,bk]⟩ oA7 oA3 ?_
 ·exact fd.trans ((d3.cons _).trans (CS _ _ _))
 rintro⟨q,pos,S,n0,rs,fj,d5,bp,fk,fm,cw,fp,W1,p1,bq,ad,a1⟩ ⟨hq,d6,dk,hS,fq,d7,dh,hE,hK,dl,dc,hR,d8,hV,d9⟩;dsimp only at hq d6 dk hS fq d7 dh hE hK dl dc hR d8 hV d9⊢;have ea:=hE.size;have fr:=hE.acts;have f1:=S_le hp hS;have gj:q≤f.count:=by
  rcases dk with h0|h0
  ·omega
  ·have:=Nat.le_mul_of_pos_right (q-1) (show 0<c by omega);omega
 have gk:Ac W.δ.size f.width pos≤pos:=by unfold Ac;rw[D6 oM];have:=D5 pos (show 0<Ad W.δ.size f.width by omega);omega
 have dd:(q-1)*c≤f.count∧(0<f.count→(q-1)*c<f.count):=by
  rcases dk with h0|h0
  ·rw[h0];simp
  ·exact⟨EK h0,fun _=>h0⟩
 have ec:pos=f.count→fts.take pos=fts:=fun e=>A6 oM;have bu:(rs.map (·.1)).length=rs.length:=AR _;have dm:=sJ bw bd ba bs W1 fj d5 bp dh bx f fts W.live (by rw[ea];exact(cu.sub dw).keep hK) (fun e he=>dc.mem_iff.2 (Ky he)) g g2 (g2::W.α.gs) dl AE pos oM fk fm d8 oM b8 n0 o fp d9 oM;rw[bk,←hc,ea] at dm;unfold Gn at dm;repeat(first|(refine sv ?_;intros)|refine gD ?_|refine cq hD ?_|refine cq hA ?_|refine cq hL ?_|refine cq hSz ?_)
 refine cL dm ?_;rintro _ _ ⟨b4,de,W3,bv,b5,cz,ft,m,rfl,a0,ee,df,gl,ef,fu,ci,eg,⟨rfl,e6,e7,e8⟩|⟨rfl,e6,e7,e8,e9⟩⟩;try dsimp only[AA,AB]
 ·have eh:pos+m=f.count→fts.take (pos+m)=fts:=fun e=>A6 oM;have f2:m≤f.count-pos:=oM;have cj:cz.length=m:=by rw[ci,BJ,List.length_drop,d0];omega
  have au:=hE.trans ee;have fv:Ac W.δ.size f.width pos≤Ac W.δ.size f.width (pos+m):=Da oM;have fw:Ac W.δ.size f.width (pos+m)≤Ac W.δ.size f.width f.count:=Da oM;have b6:Ap W.live W W3:=fun x hx=>by rw[df];exact hK x hx
  have av:W3.α.gs.Perm (g::g2::W.α.gs):=by rw[e7];exact dl
  have ab:W3.live.Perm (Au (rs.map (·.1)) W.live):=by rw[ef];exact dc
  have b7:Ek W3.δ.disk W.δ.size f.width o once (fts.take pos) rs:=by rw[df];exact hR
  have di:W3.δ.size=W.δ.size:=au.size;have ey:=au.acts;have f3:Ac W.δ.size f.width (pos+m)≤pos+m:=Dl hp;by_cases ei:m=0∧0<q
  ·obtain⟨f4,ej⟩:=ei;have gm:pos=f.count:=oM;have ek:0<rs.length:=oM;repeat(first|(refine sv ?_;intros)|refine gD ?_|refine cq hD ?_|refine cq hA ?_|refine cq hL ?_|refine cq hSz ?_)
   have ax:=Oi ba W3.α de a0.ar g2 (g::W.α.gs) (av.trans (CS _ _ _));refine Go.SL.Lv.call (hc:=ax.2) (h:=?_);rintro _ _ ⟨am,α8,rfl,a2,a3,ac,rfl⟩;try dsimp only[AA,AB]
   have a4:Wc bd ba bs {W3 with α:=α8} b4 am bp:=⟨a0.dev,a2,a0.sp,a0.nn,a0.live⟩
   have ay:=Lp bw bd ba bs {W3 with α:=α8} b4 am bp a4 bx f fts g W.α.gs a3 (pos+m) bv b5 (e8.move rfl);refine Go.SL.Lv.call (hc:=ay.2) (h:=?_);rintro _ _ ⟨an,α9,c5,rfl,rfl,a5,a6,a7,c6⟩;try dsimp only[AA,AB]
   (refine lN [[(bz,row [pv bw,Z9 Z8 o.c0,Z9 Z8 o.c1,Z9 Z8 o.c2,Z9 Z8 o.c3,Z9 Z8 o.c4,.bool once,.slice p1 rs.length bq,Z9 Z8 ad.c0,Z9 Z8 ad.c1,Z9 Z8 ad.c2,Z9 Z8 ad.c3,Z9 Z8 ad.c4,.bool a1] 200)],Ab bw bd ba bs,b4,an,bp,cw] ?_;exact⟨b4,an,bp,_,cw,p1,bq,ad,a1,rs,q,S,fts,rfl,a5,(au.weak oM (AI _)).arena ac a6,b6,a7,hV,ab,by rw[←ec oM];exact b7,oM,dd.1,dd.2,oM,.inl ⟨rfl,rfl,fun e=>by rw[e] at ek;simp at ek,hq.symm,oM,d7⟩⟩)
  ·have cm:=lay_ct bz bw bd ba bs W3 b4 de bp a0 g2 (av.mem_iff.2 oA19) b8 f.width o once cz ft (by rw[bk];exact fu) ⟨dy,dz,oM,by rw[cj,bk];exact A5 (BB _ oM) fg,rfl,fun t ht=>cu.fit t (List.mem_of_mem_drop (List.mem_of_mem_take (ci▸ht)))⟩ (by rw[cj];exact eg)
    p1 bq ad a1 (rs.map (·.1)) cw (by rw[AR];exact hV) (by rw[di];exact dj W3.α de a0.ar av au.room) oM oM (by rw[AR];omega)
   rw[cj,AR,di] at cm;unfold Fk Kx Gn at cm;by_cases cv:m=0
   ·have ej:q=0:=oM;have el:rs.length=0:=oM;repeat(first|(refine sv ?_;intros)|refine gD ?_|refine cq hD ?_|refine cq hA ?_|refine cq hL ?_|refine cq hSz ?_)
    refine cL cm ?_;rintro _ _ ⟨ai,b9,aj,W5,aw,em,p5,al,aa,ag,fx,rfl,ae,ak,az,cg,en,a8,⟨rfl,f5,out,rfl,a9,bi,eo,b1,c7,c8⟩|⟨rfl,rfl,dp,a9⟩|⟨rfl,rfl,bi,a9⟩⟩;try dsimp only[AA,AB]
    ·have b2:W5.α.room=W3.α.room:=ak.room;have ao:W5.δ.size=W3.δ.size:=ak.size;have aq:W5.α.gs.Perm (g::g2::W.α.gs):=cg.trans av;have bc:=au.trans ak;have be:=Rv (S:=S) (pos:=pos) (q:=q) (m:=m) hp hS rfl;have bf:Ev W W5 (Ac W.δ.size f.width (pos+m)+(S+Ac W.δ.size f.width m)) (S+Ac W.δ.size f.width m):=bc.weak oM oM;have bg:Ap W.live W W5:=b6.trans (az.sub fun e he=>ab.mem_iff.2 (Ky he));have bh:Ek W5.δ.disk W.δ.size f.width o once (fts.take pos) rs:=b7.keep (live0:=W.live) fun x hx=>az x ((Oh ab x).2 hx);have ah:(q+1-1)*c≤f.count∧(0<f.count→(q+1-1)*c<f.count):=by
      rw[DQ];by_cases cv:m=0
      ·have:q=0:=by omega
       subst this;simp
      ·have:q*c<f.count:=by omega
       exact⟨EK this,fun _=>this⟩
     have ep:f5.blocks≤Ac W.δ.size f.width m:=by rw[b1.blk,bi];exact Da oM
     have hts:fts.take pos++cz=fts.take (pos+m):=by rw[ci,List.take_add]
     have dq:Ek W5.δ.disk W.δ.size f.width o once (fts.take (pos+m)) (rs++[(f5,out)]):=by rw[←hts];exact bh.more bi b1 c7 c8 (.inl (DM.1 el))
     have dr:W5.live.Perm (Au ((rs++[(f5,out)]).map (·.1)) W.live):=by rw[a9,A0,List.map_singleton,Tq];exact Oq ab
     have ds:Vec 42 4 p5 (rs++[(f5,out)]).length al (Ai ((rs++[(f5,out)]).map (·.1))) aw:=by simpa using a8
     have dt:(rs.map (·.1)++[f5]).length=(rs++[(f5,out)]).length:=by simp
     have et:((rs++[(f5,out)]).map (·.1.count)).sum≤pos+m:=by simp;omega
     have du:((rs++[(f5,out)]).map (·.1.blocks)).sum≤S+Ac W.δ.size f.width m:=by simp;omega
     rw[dt];repeat(first|(refine sv ?_;intros)|refine gD ?_|refine cq hD ?_|refine cq hA ?_|refine cq hL ?_|refine cq hSz ?_)
     have ax:=Oi ba W5.α b9 ae.ar g2 (g::W.α.gs) (aq.trans (CS _ _ _));refine Go.SL.Lv.call (hc:=ax.2) (h:=?_);rintro _ _ ⟨am,α8,rfl,a2,a3,ac,rfl⟩;try dsimp only[AA,AB]
     have a4:Wc bd ba bs {W5 with α:=α8} ai am aj:=⟨ae.dev,a2,ae.sp,ae.nn,ae.live⟩
     have ay:=Lp bw bd ba bs {W5 with α:=α8} ai am aj a4 bx f fts g W.α.gs a3 (pos+m) bv b5 (e8.move ao);refine Go.SL.Lv.call (hc:=ay.2) (h:=?_);rintro _ _ ⟨an,α9,c5,rfl,rfl,a5,a6,a7,c6⟩;try dsimp only[AA,AB]
     (refine lN [[(bz,row [pv bw,Z9 Z8 o.c0,Z9 Z8 o.c1,Z9 Z8 o.c2,Z9 Z8 o.c3,Z9 Z8 o.c4,.bool once,.slice p5 (rs++[(f5,out)]).length al,Z9 Z8 aa.c0,Z9 Z8 aa.c1,Z9 Z8 aa.c2,Z9 Z8 aa.c3,Z9 Z8 aa.c4,.bool ag] 200)],Ab bw bd ba bs,ai,an,aj,aw] ?_;exact⟨ai,an,aj,_,aw,p5,al,aa,ag,rs++[(f5,out)],q+1,S+Ac W.δ.size f.width m,fts,rfl,a5,(bf.weak oM (AI _)).arena ac a6,bg,a7,ds,dr,by rw[←eh oM];exact dq,A5 be (DP oM _),ah.1,ah.2,oM,.inl ⟨rfl,rfl,by simp,by simp[hq],oM,du⟩⟩)
    ·have b2:W5.α.room=W3.α.room:=ak.room;have ao:W5.δ.size=W3.δ.size:=ak.size;have aq:W5.α.gs.Perm (g::g2::W.α.gs):=cg.trans av;have bc:=au.trans ak;have be:=Rv (S:=S) (pos:=pos) (q:=q) (m:=m) hp hS rfl;have bf:Ev W W5 (Ac W.δ.size f.width (pos+m)+(S+Ac W.δ.size f.width m)) (S+Ac W.δ.size f.width m):=bc.weak oM oM;have bg:Ap W.live W W5:=b6.trans (az.sub fun e he=>ab.mem_iff.2 (Ky he));have bh:Ek W5.δ.disk W.δ.size f.width o once (fts.take pos) rs:=b7.keep (live0:=W.live) fun x hx=>az x ((Oh ab x).2 hx);have ah:(q+1-1)*c≤f.count∧(0<f.count→(q+1-1)*c<f.count):=by
      rw[DQ];by_cases cv:m=0
      ·have:q=0:=by omega
       subst this;simp
      ·have:q*c<f.count:=by omega
       exact⟨EK this,fun _=>this⟩
     repeat(first|(refine sv ?_;intros)|refine gD ?_|refine cq hD ?_|refine cq hA ?_|refine cq hL ?_|refine cq hSz ?_)
     have ax:=Oi ba W5.α b9 ae.ar g2 (g::W.α.gs) (aq.trans (CS _ _ _));refine Go.SL.Lv.call (hc:=ax.2) (h:=?_);rintro _ _ ⟨am,α8,rfl,a2,a3,ac,rfl⟩;try dsimp only[AA,AB]
     have a4:Wc bd ba bs {W5 with α:=α8} ai am aj:=⟨ae.dev,a2,ae.sp,ae.nn,ae.live⟩
     have ay:=Lp bw bd ba bs {W5 with α:=α8} ai am aj a4 bx f fts g W.α.gs a3 (pos+m) bv b5 (e8.move ao);refine Go.SL.Lv.call (hc:=ay.2) (h:=?_);rintro _ _ ⟨an,α9,c5,rfl,rfl,a5,a6,a7,c6⟩;try dsimp only[AA,AB]
     (refine lN [[(bz,row [pv bw,Z9 Z8 o.c0,Z9 Z8 o.c1,Z9 Z8 o.c2,Z9 Z8 o.c3,Z9 Z8 o.c4,.bool once,.slice p5 (rs.map (·.1)).length al,Z9 Z8 aa.c0,Z9 Z8 aa.c1,Z9 Z8 aa.c2,Z9 Z8 aa.c3,Z9 Z8 aa.c4,.bool ag] 200)],Ab bw bd ba bs,ai,an,aj,aw] ?_;exact⟨ai,an,aj,_,aw,p5,al,aa,ag,rs,q+1,S+Ac W.δ.size f.width m,fts.take pos,by rw[bu],a5,(bf.weak oM (AI _)).arena ac a6,bg,a7,by rw[bu] at a8;exact a8,a9.trans ab,bh,A5 be (DP oM _),ah.1,ah.2,oM,.inr (.inl ⟨rfl,by have:=au.big;omega⟩)⟩)
    ·have b2:W5.α.room=W3.α.room:=ak.room;have ao:W5.δ.size=W3.δ.size:=ak.size;have aq:W5.α.gs.Perm (g::g2::W.α.gs):=cg.trans av;have bc:=au.trans ak;have be:=Rv (S:=S) (pos:=pos) (q:=q) (m:=m) hp hS rfl;have bf:Ev W W5 (Ac W.δ.size f.width (pos+m)+(S+Ac W.δ.size f.width m)) (S+Ac W.δ.size f.width m):=bc.weak oM oM;have bg:Ap W.live W W5:=b6.trans (az.sub fun e he=>ab.mem_iff.2 (Ky he));have bh:Ek W5.δ.disk W.δ.size f.width o once (fts.take pos) rs:=b7.keep (live0:=W.live) fun x hx=>az x ((Oh ab x).2 hx);have ah:(q+1-1)*c≤f.count∧(0<f.count→(q+1-1)*c<f.count):=by
      rw[DQ];by_cases cv:m=0
      ·have:q=0:=by omega
       subst this;simp
      ·have:q*c<f.count:=by omega
       exact⟨EK this,fun _=>this⟩
     repeat(first|(refine sv ?_;intros)|refine gD ?_|refine cq hD ?_|refine cq hA ?_|refine cq hL ?_|refine cq hSz ?_)
     have ax:=Oi ba W5.α b9 ae.ar g2 (g::W.α.gs) (aq.trans (CS _ _ _));refine Go.SL.Lv.call (hc:=ax.2) (h:=?_);rintro _ _ ⟨am,α8,rfl,a2,a3,ac,rfl⟩;try dsimp only[AA,AB]
     have a4:Wc bd ba bs {W5 with α:=α8} ai am aj:=⟨ae.dev,a2,ae.sp,ae.nn,ae.live⟩
     have ay:=Lp bw bd ba bs {W5 with α:=α8} ai am aj a4 bx f fts g W.α.gs a3 (pos+m) bv b5 (e8.move ao);refine Go.SL.Lv.call (hc:=ay.2) (h:=?_);rintro _ _ ⟨an,α9,c5,rfl,rfl,a5,a6,a7,c6⟩;try dsimp only[AA,AB]
     (refine lN [[(bz,row [pv bw,Z9 Z8 o.c0,Z9 Z8 o.c1,Z9 Z8 o.c2,Z9 Z8 o.c3,Z9 Z8 o.c4,.bool once,.slice p5 (rs.map (·.1)).length al,Z9 Z8 aa.c0,Z9 Z8 aa.c1,Z9 Z8 aa.c2,Z9 Z8 aa.c3,Z9 Z8 aa.c4,.bool ag] 200)],Ab bw bd ba bs,ai,an,aj,aw] ?_;exact⟨ai,an,aj,_,aw,p5,al,aa,ag,rs,q+1,S+Ac W.δ.size f.width m,fts.take pos,by rw[bu],a5,(bf.weak oM (AI _)).arena ac a6,bg,a7,by rw[bu] at a8;exact a8,a9.trans ab,bh,A5 be (DP oM _),ah.1,ah.2,oM,.inr (.inr ⟨rfl,fun e=>bi (au.fault e)⟩)⟩)
   ·repeat(first|(refine sv ?_;intros)|refine gD ?_|refine cq hD ?_|refine cq hA ?_|refine cq hL ?_|refine cq hSz ?_)
    refine cL cm ?_;rintro _ _ ⟨ai,b9,aj,W5,aw,em,p5,al,aa,ag,fx,rfl,ae,ak,az,cg,en,a8,⟨rfl,f5,out,rfl,a9,bi,eo,b1,c7,c8⟩|⟨rfl,rfl,dp,a9⟩|⟨rfl,rfl,bi,a9⟩⟩;try dsimp only[AA,AB]
    ·have b2:W5.α.room=W3.α.room:=ak.room;have ao:W5.δ.size=W3.δ.size:=ak.size;have aq:W5.α.gs.Perm (g::g2::W.α.gs):=cg.trans av;have bc:=au.trans ak;have be:=Rv (S:=S) (pos:=pos) (q:=q) (m:=m) hp hS rfl;have bf:Ev W W5 (Ac W.δ.size f.width (pos+m)+(S+Ac W.δ.size f.width m)) (S+Ac W.δ.size f.width m):=bc.weak oM oM;have bg:Ap W.live W W5:=b6.trans (az.sub fun e he=>ab.mem_iff.2 (Ky he));have bh:Ek W5.δ.disk W.δ.size f.width o once (fts.take pos) rs:=b7.keep (live0:=W.live) fun x hx=>az x ((Oh ab x).2 hx);have ah:(q+1-1)*c≤f.count∧(0<f.count→(q+1-1)*c<f.count):=by
      rw[DQ];by_cases cv:m=0
      ·have:q=0:=by omega
       subst this;simp
      ·have:q*c<f.count:=by omega
       exact⟨EK this,fun _=>this⟩
     have ep:f5.blocks≤Ac W.δ.size f.width m:=by rw[b1.blk,bi];exact Da oM
     have hts:fts.take pos++cz=fts.take (pos+m):=by rw[ci,List.take_add]
     have eu:rs=[]∨(fts.take pos≠[]∧cz≠[]):=by
      by_cases ej:q=0
      ·left;exact DM.1 oM
      ·right;have f6:0<q*c:=Nat.mul_pos oM oM;constructor
       ·intro e;have:=congrArg List.length e;rw[BJ,d0,AO] at this;omega
       ·intro e;rw[e,AO] at cj;omega
     have dq:Ek W5.δ.disk W.δ.size f.width o once (fts.take (pos+m)) (rs++[(f5,out)]):=by rw[←hts];exact bh.more bi b1 c7 c8 eu
     have dr:W5.live.Perm (Au ((rs++[(f5,out)]).map (·.1)) W.live):=by rw[a9,A0,List.map_singleton,Tq];exact Oq ab
     have ds:Vec 42 4 p5 (rs++[(f5,out)]).length al (Ai ((rs++[(f5,out)]).map (·.1))) aw:=by simpa using a8
     have dt:(rs.map (·.1)++[f5]).length=(rs++[(f5,out)]).length:=by simp
     have et:((rs++[(f5,out)]).map (·.1.count)).sum≤pos+m:=by simp;omega
     have du:((rs++[(f5,out)]).map (·.1.blocks)).sum≤S+Ac W.δ.size f.width m:=by simp;omega
     rw[dt];repeat(first|(refine sv ?_;intros)|refine gD ?_|refine cq hD ?_|refine cq hA ?_|refine cq hL ?_|refine cq hSz ?_)
     refine Dn.round ⟨q+1,pos+m,S+Ac W.δ.size f.width m,m,rs++[(f5,out)],ai,b9,aj,bv,b5,aw,em,W5,p5,al,aa,ag⟩ ⟨by simp[hq],?_,.inr ?_,be,et,du,ae,bf,bg,aq,dr,dq,e8.move ao,ds,en⟩ oD
     ·dsimp only;have:(q+1)*c=q*c+c:=BH _ _;omega
     ·dsimp only;rw[DQ];omega
    ·have b2:W5.α.room=W3.α.room:=ak.room;have ao:W5.δ.size=W3.δ.size:=ak.size;have aq:W5.α.gs.Perm (g::g2::W.α.gs):=cg.trans av;have bc:=au.trans ak;have be:=Rv (S:=S) (pos:=pos) (q:=q) (m:=m) hp hS rfl;have bf:Ev W W5 (Ac W.δ.size f.width (pos+m)+(S+Ac W.δ.size f.width m)) (S+Ac W.δ.size f.width m):=bc.weak oM oM;have bg:Ap W.live W W5:=b6.trans (az.sub fun e he=>ab.mem_iff.2 (Ky he));have bh:Ek W5.δ.disk W.δ.size f.width o once (fts.take pos) rs:=b7.keep (live0:=W.live) fun x hx=>az x ((Oh ab x).2 hx);have ah:(q+1-1)*c≤f.count∧(0<f.count→(q+1-1)*c<f.count):=by
      rw[DQ];by_cases cv:m=0
      ·have:q=0:=by omega
       subst this;simp
      ·have:q*c<f.count:=by omega
       exact⟨EK this,fun _=>this⟩
     repeat(first|(refine sv ?_;intros)|refine gD ?_|refine cq hD ?_|refine cq hA ?_|refine cq hL ?_|refine cq hSz ?_)
     have ax:=Oi ba W5.α b9 ae.ar g2 (g::W.α.gs) (aq.trans (CS _ _ _));refine Go.SL.Lv.call (hc:=ax.2) (h:=?_);rintro _ _ ⟨am,α8,rfl,a2,a3,ac,rfl⟩;try dsimp only[AA,AB]
     have a4:Wc bd ba bs {W5 with α:=α8} ai am aj:=⟨ae.dev,a2,ae.sp,ae.nn,ae.live⟩
     have ay:=Lp bw bd ba bs {W5 with α:=α8} ai am aj a4 bx f fts g W.α.gs a3 (pos+m) bv b5 (e8.move ao);refine Go.SL.Lv.call (hc:=ay.2) (h:=?_);rintro _ _ ⟨an,α9,c5,rfl,rfl,a5,a6,a7,c6⟩;try dsimp only[AA,AB]
     (refine lN [[(bz,row [pv bw,Z9 Z8 o.c0,Z9 Z8 o.c1,Z9 Z8 o.c2,Z9 Z8 o.c3,Z9 Z8 o.c4,.bool once,.slice p5 (rs.map (·.1)).length al,Z9 Z8 aa.c0,Z9 Z8 aa.c1,Z9 Z8 aa.c2,Z9 Z8 aa.c3,Z9 Z8 aa.c4,.bool ag] 200)],Ab bw bd ba bs,ai,an,aj,aw] ?_;exact⟨ai,an,aj,_,aw,p5,al,aa,ag,rs,q+1,S+Ac W.δ.size f.width m,fts.take pos,by rw[bu],a5,(bf.weak oM (AI _)).arena ac a6,bg,a7,by rw[bu] at a8;exact a8,a9.trans ab,bh,A5 be (DP oM _),ah.1,ah.2,oM,.inr (.inl ⟨rfl,by have:=au.big;omega⟩)⟩)
    ·have b2:W5.α.room=W3.α.room:=ak.room;have ao:W5.δ.size=W3.δ.size:=ak.size;have aq:W5.α.gs.Perm (g::g2::W.α.gs):=cg.trans av;have bc:=au.trans ak;have be:=Rv (S:=S) (pos:=pos) (q:=q) (m:=m) hp hS rfl;have bf:Ev W W5 (Ac W.δ.size f.width (pos+m)+(S+Ac W.δ.size f.width m)) (S+Ac W.δ.size f.width m):=bc.weak oM oM;have bg:Ap W.live W W5:=b6.trans (az.sub fun e he=>ab.mem_iff.2 (Ky he));have bh:Ek W5.δ.disk W.δ.size f.width o once (fts.take pos) rs:=b7.keep (live0:=W.live) fun x hx=>az x ((Oh ab x).2 hx);have ah:(q+1-1)*c≤f.count∧(0<f.count→(q+1-1)*c<f.count):=by
      rw[DQ];by_cases cv:m=0
      ·have:q=0:=by omega
       subst this;simp
      ·have:q*c<f.count:=by omega
       exact⟨EK this,fun _=>this⟩
     repeat(first|(refine sv ?_;intros)|refine gD ?_|refine cq hD ?_|refine cq hA ?_|refine cq hL ?_|refine cq hSz ?_)
     have ax:=Oi ba W5.α b9 ae.ar g2 (g::W.α.gs) (aq.trans (CS _ _ _));refine Go.SL.Lv.call (hc:=ax.2) (h:=?_);rintro _ _ ⟨am,α8,rfl,a2,a3,ac,rfl⟩;try dsimp only[AA,AB]
     have a4:Wc bd ba bs {W5 with α:=α8} ai am aj:=⟨ae.dev,a2,ae.sp,ae.nn,ae.live⟩
     have ay:=Lp bw bd ba bs {W5 with α:=α8} ai am aj a4 bx f fts g W.α.gs a3 (pos+m) bv b5 (e8.move ao);refine Go.SL.Lv.call (hc:=ay.2) (h:=?_);rintro _ _ ⟨an,α9,c5,rfl,rfl,a5,a6,a7,c6⟩;try dsimp only[AA,AB]
     (refine lN [[(bz,row [pv bw,Z9 Z8 o.c0,Z9 Z8 o.c1,Z9 Z8 o.c2,Z9 Z8 o.c3,Z9 Z8 o.c4,.bool once,.slice p5 (rs.map (·.1)).length al,Z9 Z8 aa.c0,Z9 Z8 aa.c1,Z9 Z8 aa.c2,Z9 Z8 aa.c3,Z9 Z8 aa.c4,.bool ag] 200)],Ab bw bd ba bs,ai,an,aj,aw] ?_;exact⟨ai,an,aj,_,aw,p5,al,aa,ag,rs,q+1,S+Ac W.δ.size f.width m,fts.take pos,by rw[bu],a5,(bf.weak oM (AI _)).arena ac a6,bg,a7,by rw[bu] at a8;exact a8,a9.trans ab,bh,A5 be (DP oM _),ah.1,ah.2,oM,.inr (.inr ⟨rfl,fun e=>bi (au.fault e)⟩)⟩)
 ·repeat(first|(refine sv ?_;intros)|refine gD ?_|refine cq hD ?_|refine cq hA ?_|refine cq hL ?_|refine cq hSz ?_)
  have fv:Ac W.δ.size f.width pos≤Ac W.δ.size f.width (pos+m):=Da oM;have fw:Ac W.δ.size f.width (pos+m)≤Ac W.δ.size f.width f.count:=Da oM;have ak:Ev W W3 (Ac W.δ.size f.width f.count+S) S:=(hE.trans ee).weak oM oM;have ax:=Oi ba W3.α de a0.ar g2 W.α.gs e7;have ay:=Vi bx bv e8;refine Go.SL.Lv.call (hc:=ax.2) (h:=?_);rintro _ _ ⟨ew,α4,rfl,fy,f0,dg,rfl⟩;try dsimp only[AA,AB]
  refine Go.SL.Lv.call (hc:=ay.2) (h:=?_);rintro _ _ ⟨rfl,rfl⟩;try dsimp only[AA,AB]
  (refine lN [[(bz,row [pv bw,Z9 Z8 o.c0,Z9 Z8 o.c1,Z9 Z8 o.c2,Z9 Z8 o.c3,Z9 Z8 o.c4,.bool once,.slice p1 rs.length bq,Z9 Z8 ad.c0,Z9 Z8 ad.c1,Z9 Z8 ad.c2,Z9 Z8 ad.c3,Z9 Z8 ad.c4,.bool a1] 200)],Ab bw bd ba bs,b4,ew,bp,cw] ?_;exact⟨b4,ew,bp,{W3 with α:=α4},cw,p1,bq,ad,a1,rs,q,S,fts.take pos,rfl,⟨a0.dev,fy,a0.sp,a0.nn,a0.live⟩,{ak with room:=dg.trans ak.room},fun x hx=>by rw[df];exact hK x hx,f0,hV,by rw[ef];exact dc,by rw[df];exact hR,oM,dd.1,dd.2,oM,.inr (.inr ⟨rfl,fun e=>e6 (hE.fault e)⟩)⟩)
end Go.Proofs.YtaofijjjheiknaaGreat
