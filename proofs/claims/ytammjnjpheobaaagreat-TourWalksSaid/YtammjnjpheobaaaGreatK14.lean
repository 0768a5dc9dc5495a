/-
  Parts of the proof, put together: Sym, SrtPlain3, Stable2, Sorter, Emit, Fill. No condition.
-/
import Derived.Test.YtammjnjpheobaaaGreatK13
set_option linter.unusedVariables false
set_option linter.unusedSimpArgs false
set_option linter.unnecessarySimpa false
set_option maxHeartbeats 4000000
namespace Go.Proofs.YtammjnjpheobaaaGreat
open Go.SL Go.Spc Go.Tup Go.Srt
theorem half_shr (i j:Nat):((i:Int)+(j:Int)).fdiv (2^min (Int.toNat 1) IntKind.u64.bits)=(((i+j)/2:Nat):Int):=by
 have e0:(2:Int)^min (Int.toNat 1) IntKind.u64.bits=2:=by decide
 rw[e0,Int.fdiv_eq_ediv_of_nonneg _ (by decide)]
 omega
theorem Srt.rot {o:T5} {ts us:List T5} {a m b c d:Nat} (h1:a≤m) (h2:m≤b) (hb:b≤ts.length) (hl:us.length=ts.length) (hr:∀k,at_ us k=rotF ts a m b k)
  (hc:∀i j,a≤i→i<m→m≤j→j<b→ltO o (at_ ts j) (at_ ts i)=true) (hca:c≤a) (hbd:b≤d):Srt o ts us c d:=
 ⟨rot_sp (ltO_swo o) h1 h2 hb hl hr hc,(Ins.rot h1 h2 hl hr).wide hca hbd⟩
theorem Srt.trans {o:T5} {ts us vs:List T5} {a b:Nat} (h:Srt o ts us a b) (h2:Srt o us vs a b):Srt o ts vs a b:=⟨h.1.trans h2.1,h.2.trans h2.2⟩
theorem Srt.wide {o:T5} {ts us:List T5} {a b c d:Nat} (h:Srt o ts us a b) (h1:c≤a) (h2:b≤d):Srt o ts us c d:=⟨h.1,h.2.wide h1 h2⟩
theorem Srt.refl (o:T5) (ts:List T5) (a b:Nat):Srt o ts ts a b:=⟨Go.Srt.Sp.refl _ _,Ins.refl _ _ _⟩
section
variable (bx:Nat) (g:Gr) (k n:Nat) (o:T5) (rest:List Int)
theorem symMerge_ct:∀(d:Nat) (ts:List T5) (h:TsOk g k n ts) (a m b:Nat),b-a≤d→a<m→m<b→b≤n→Seg (ltO o) ts a m→Seg (ltO o) ts m b→
  Ct Tryz.prog 198 [runV bx,.int .i64 (a:Int),.int .i64 (m:Int),.int .i64 (b:Int)] (RunH bx g k o ts rest) fun v H'=>
   v= .tuple #[]∧∃ts',H'=RunH bx g k o ts' rest∧TsOk g k n ts'∧Srt o ts ts' a b∧Seg (ltO o) ts' a b:=by
 intro d
 induction d with
 |zero=>intro ts h a m b hd ham hmb;omega
 |succ d ih=>
 intro ts h a m b hd ham hmb hb s1 s2
 have hnn:=h.n_le
 have hsw:=ltO_swo o
 have hlen:=h.len
 have e1:IntKind.wrap .i64 ((m:Int)-(a:Int))=((m-a:Nat):Int):=by rw[wrap_i64 (by omega)];omega
 have e2:IntKind.wrap .i64 ((b:Int)-(m:Int))=((b-m:Nat):Int):=by rw[wrap_i64 (by omega)];omega
 refine Ct.intro Tryz.func198 rfl Tryz.ntmps198 (nle rfl) fun w0=> ?_;dsimp only[argSlots,Nat.reduceAdd]
 by_cases hm1:m=a+1
 ·clear ih
  repeat(first|(refine st ?_;intros)|(refine cq hL ?_))
  refine G.loop (X:=Nat×Nat) (fun x=>m≤x.1∧x.1≤x.2∧x.2≤b∧(x.1=m∨ltO o (at_ ts (x.1-1)) (at_ ts a)=true)∧(x.2=b∨ltO o (at_ ts x.2) (at_ ts a)=false))
   (fun x=>[(9,.int .i64 (x.2:Int)),(8,.int .i64 (x.1:Int)),(0,runV bx),(1,.int .i64 (a:Int))])
   (fun x=>RunH bx g k o ts rest) (fun x=>x.2-x.1) (m,b) ⟨Nat.le_refl _,Nat.le_of_lt hmb,Nat.le_refl _,.inl rfl,.inl rfl⟩ (body:= ?_)
  rintro⟨i,j⟩ ⟨hmi,hij,hjb,f1,f2⟩
  dsimp only at hmi hij hjb f1 f2⊢
  by_cases hlt:i<j
  ·have hsh:=half_shr i j
   generalize hh:(i+j)/2=c at hsh
   have hh1:i≤c∧c<j:=by omega
   have e3:IntKind.wrap .i64 ((i:Int)+(j:Int))=((i+j:Nat):Int):=by rw[←Int.natCast_add];exact wrap_i64 (by omega)
   have hL:=less_of h bx o rest c a (by omega) (by omega)
   cases hl:ltO o (at_ ts c) (at_ ts a) with
   |true=>
    rw[hl] at hL
    repeat(first|(refine st ?_;intros)|(refine cq hL ?_))
    exact Dn.round (c+1,j) ⟨by omega,by omega,hjb,.inr (by simpa using hl),f2⟩ (by dsimp only;omega)
   |false=>
    rw[hl] at hL
    repeat(first|(refine st ?_;intros)|(refine cq hL ?_))
    exact Dn.round (i,c) ⟨hmi,by omega,by omega,f1,.inr hl⟩ (by dsimp only;omega)
  ·obtain rfl:i=j:=by omega
   repeat(first|(refine st ?_;intros)|(refine cq hL ?_))
   refine G.loop (X:=Nat×List T5) (fun x=>a≤x.1∧x.1+1≤i∧TsOk g k n x.2∧∀q,at_ x.2 q=rotF ts a (a+1) (x.1+1) q)
    (fun x=>[(11,.int .i64 (x.1:Int)),(8,.int .i64 (i:Int)),(0,runV bx)])
    (fun x=>RunH bx g k o x.2 rest) (fun x=>i-x.1) (a,ts) ⟨Nat.le_refl _,by dsimp only;omega,h,fun q=>(rot_id ts (.inr rfl) (by omega) (Nat.le_refl _) q).symm⟩ (body:= ?_)
   rintro⟨c,us⟩ ⟨hac,hci,hok,hq⟩
   dsimp only at hac hci hok hq⊢
   have e3:IntKind.wrap .i64 ((i:Int)-1)=((i-1:Nat):Int):=by rw[wrap_i64 (by omega)];omega
   by_cases hc:c<i-1
   ·have hS:=swap_of hok bx o rest c (c+1) (by omega) (by omega) (by omega)
    have e4:IntKind.wrap .i64 ((c:Int)+1)=((c+1:Nat):Int):=by rw[wrap_i64 (by omega)];omega
    repeat(first|(refine st ?_;intros)|(refine cq hL ?_))
    refine R.invoke (hct:=hS) (h:= ?_)
    rintro _ _ ⟨rfl,rfl⟩
    try dsimp only[List.cons_append,List.nil_append]
    repeat(first|(refine st ?_;intros)|(refine cq hL ?_))
    exact Dn.round (c+1,sw us c (c+1)) ⟨by omega,by dsimp only;omega,hok.sw (by omega) (by omega),rot_up hac (by rw[hok.len];omega) hq⟩ (by dsimp only;omega)
   ·obtain rfl:i=c+1:=by omega
    obtain⟨g1,g2⟩:=ins1 hsw hm1 hmi hjb s2 f1 f2 (by rw[hm1];exact hq)
    repeat(first|(refine st ?_;intros)|(refine cq hL ?_))
    (refine Dn.post (Hr:=RunH bx g k o us rest) Tryz.results198 (hR:= ?_);exact⟨rfl,us,rfl,hok,Srt.rot (by omega) hmi (by omega) (by rw[hok.len,hlen]) (by rw[hm1];exact hq) g1 (Nat.le_refl _) hjb,g2⟩)
 by_cases hb1:b=m+1
 ·clear ih
  repeat(first|(refine st ?_;intros)|(refine cq hL ?_))
  refine G.loop (X:=Nat×Nat) (fun x=>a≤x.1∧x.1≤x.2∧x.2≤m∧(x.1=a∨ltO o (at_ ts m) (at_ ts (x.1-1))=false)∧(x.2=m∨ltO o (at_ ts m) (at_ ts x.2)=true))
   (fun x=>[(13,.int .i64 (x.2:Int)),(12,.int .i64 (x.1:Int)),(0,runV bx),(2,.int .i64 (m:Int))])
   (fun x=>RunH bx g k o ts rest) (fun x=>x.2-x.1) (a,m) ⟨Nat.le_refl _,Nat.le_of_lt ham,Nat.le_refl _,.inl rfl,.inl rfl⟩ (body:= ?_)
  rintro⟨i,j⟩ ⟨hmi,hij,hjb,f1,f2⟩
  dsimp only at hmi hij hjb f1 f2⊢
  by_cases hlt:i<j
  ·have hsh:=half_shr i j
   generalize hh:(i+j)/2=c at hsh
   have hh1:i≤c∧c<j:=by omega
   have e3:IntKind.wrap .i64 ((i:Int)+(j:Int))=((i+j:Nat):Int):=by rw[←Int.natCast_add];exact wrap_i64 (by omega)
   have hL:=less_of h bx o rest m c (by omega) (by omega)
   cases hl:ltO o (at_ ts m) (at_ ts c) with
   |true=>
    rw[hl] at hL
    repeat(first|(refine st ?_;intros)|(refine cq hL ?_))
    exact Dn.round (i,c) ⟨hmi,by omega,by omega,f1,.inr hl⟩ (by dsimp only;omega)
   |false=>
    rw[hl] at hL
    repeat(first|(refine st ?_;intros)|(refine cq hL ?_))
    exact Dn.round (c+1,j) ⟨by omega,by omega,hjb,.inr (by simpa using hl),f2⟩ (by dsimp only;omega)
  ·obtain rfl:i=j:=by omega
   repeat(first|(refine st ?_;intros)|(refine cq hL ?_))
   refine G.loop (X:=Nat×List T5) (fun x=>i≤x.1∧x.1≤m∧TsOk g k n x.2∧∀q,at_ x.2 q=rotF ts x.1 m (m+1) q)
    (fun x=>[(15,.int .i64 (x.1:Int)),(12,.int .i64 (i:Int)),(0,runV bx)])
    (fun x=>RunH bx g k o x.2 rest) (fun x=>x.1) (m,ts) ⟨by dsimp only;omega,Nat.le_refl _,h,fun q=>(rot_id ts (.inl rfl) (Nat.le_refl _) (by omega) q).symm⟩ (body:= ?_)
   rintro⟨c,us⟩ ⟨hic,hcm,hok,hq⟩
   dsimp only at hic hcm hok hq⊢
   by_cases hc:i<c
   ·have hS:=swap_of hok bx o rest c (c-1) (by omega) (by omega) (by omega)
    have e4:IntKind.wrap .i64 ((c:Int)-1)=((c-1:Nat):Int):=by rw[wrap_i64 (by omega)];omega
    repeat(first|(refine st ?_;intros)|(refine cq hL ?_))
    refine R.invoke (hct:=hS) (h:= ?_)
    rintro _ _ ⟨rfl,rfl⟩
    try dsimp only[List.cons_append,List.nil_append]
    repeat(first|(refine st ?_;intros)|(refine cq hL ?_))
    exact Dn.round (c-1,sw us c (c-1)) ⟨by dsimp only;omega,by dsimp only;omega,hok.sw (by omega) (by omega),rot_down (by omega) hcm (by rw[hok.len];omega) hq⟩ (by dsimp only;omega)
   ·obtain rfl:c=i:=by omega
    obtain⟨g1,g2⟩:=ins2 hsw hb1 hmi hjb s1 f1 f2 (by rw[hb1];exact hq)
    repeat(first|(refine st ?_;intros)|(refine cq hL ?_))
    (refine Dn.post (Hr:=RunH bx g k o us rest) Tryz.results198 (hR:= ?_);exact⟨rfl,us,rfl,hok,Srt.rot hjb (by omega) (by omega) (by rw[hok.len,hlen]) (by rw[hb1];exact hq) g1 hmi (Nat.le_refl _),g2⟩)
 have e3:IntKind.wrap .i64 ((a:Int)+(b:Int))=((a+b:Nat):Int):=by rw[←Int.natCast_add];exact wrap_i64 (by omega)
 have hsh:=half_shr a b
 generalize hmid:(a+b)/2=mid at hsh
 have e4:IntKind.wrap .i64 ((mid:Int)+(m:Int))=((mid+m:Nat):Int):=by rw[←Int.natCast_add];exact wrap_i64 (by omega)
 obtain⟨low,hlow⟩:∃low,low=if mid<m then mid+m-b else a:=⟨_,rfl⟩
 obtain⟨high,hhigh⟩:∃high,high=if mid<m then mid else m:=⟨_,rfl⟩
 have hN:mid+m≤a+b∨mid<m:=by omega
 have e5:IntKind.wrap .i64 (((mid+m:Nat):Int)-1)=((mid+m-1:Nat):Int):=by rw[wrap_i64 (by omega)];omega
 have hlohi:low≤high:=by split at hlow<;>split at hhigh<;>omega
 have hhim:high≤m:=by split at hhigh<;>omega
 repeat(first|(refine stn ?_;intros)|(refine cq hL ?_))
 apply G.seq
 repeat(first|(refine stn ?_;intros)|(refine cq hL ?_))
 apply G.seq
 repeat(first|(refine stn ?_;intros)|(refine cq hL ?_))
 apply G.seq
 repeat(first|(refine stn ?_;intros)|(refine cq hL ?_))
 apply G.seq
 repeat(first|(refine stn ?_;intros)|(refine cq hL ?_))
 apply G.seq
 repeat(first|(refine stn ?_;intros)|(refine cq hL ?_))
 apply G.seq
 repeat(first|(refine stn ?_;intros)|(refine cq hL ?_))
 apply G.seq
 repeat(first|(refine stn ?_;intros)|(refine cq hL ?_))
 refine G.cut (D':=[]) (X:=Unit) (fun _=>True) (fun _=>[(18,.int .i64 (low:Int)),(19,.int .i64 (high:Int)),(17,.int .i64 ((mid+m:Nat):Int)),(16,.int .i64 (mid:Int)),(0,runV bx),(1,.int .i64 (a:Int)),(2,.int .i64 (m:Int)),(3,.int .i64 (b:Int))])
  (fun _=>RunH bx g k o ts rest) ?_ ?_
 ·by_cases hmm:mid<m
  ·rw[if_pos hmm] at hlow hhigh
   have e6:IntKind.wrap .i64 (((mid+m:Nat):Int)-(b:Int))=(low:Int):=by rw[wrap_i64 (by omega)];omega
   subst hhigh
   repeat(first|(refine st ?_;intros)|(refine cq hL ?_))
   exact Dn.meet () trivial
  ·rw[if_neg hmm] at hlow hhigh
   subst hlow hhigh
   repeat(first|(refine st ?_;intros)|(refine cq hL ?_))
   exact Dn.meet () trivial
 rintro⟨⟩-
 repeat(first|(refine st ?_;intros)|(refine cq hL ?_))
 refine G.loop (X:=Nat×Nat) (fun x=>low≤x.1∧x.1≤x.2∧x.2≤high∧(x.1=low∨ltO o (at_ ts (mid+m-x.1)) (at_ ts (x.1-1))=false)∧(x.2=high∨ltO o (at_ ts (mid+m-1-x.2)) (at_ ts x.2)=true))
  (fun x=>[(20,.int .i64 ((mid+m-1:Nat):Int)),(18,.int .i64 (x.1:Int)),(19,.int .i64 (x.2:Int)),(17,.int .i64 ((mid+m:Nat):Int)),(16,.int .i64 (mid:Int)),(0,runV bx),(1,.int .i64 (a:Int)),(2,.int .i64 (m:Int)),(3,.int .i64 (b:Int))])
  (fun _=>RunH bx g k o ts rest) (fun x=>x.2-x.1) (low,high) ⟨Nat.le_refl _,hlohi,Nat.le_refl _,.inl rfl,.inl rfl⟩ (body:= ?_)
 rintro⟨s,r⟩ ⟨hls,hsr,hrh,f1,f2⟩
 dsimp only at hls hsr hrh f1 f2⊢
 by_cases hlt:s<r
 ·have hsh2:=half_shr s r
  generalize hh:(s+r)/2=c at hsh2
  have hh1:s≤c∧c<r:=by omega
  have hpc:mid+m-1-c<b:=by split at hlow<;>omega
  have e6:IntKind.wrap .i64 ((s:Int)+(r:Int))=((s+r:Nat):Int):=by rw[←Int.natCast_add];exact wrap_i64 (by omega)
  have e7:IntKind.wrap .i64 (((mid+m-1:Nat):Int)-(c:Int))=((mid+m-1-c:Nat):Int):=by rw[wrap_i64 (by omega)];omega
  have hL:=less_of h bx o rest (mid+m-1-c) c (by omega) (by omega)
  cases hl:ltO o (at_ ts (mid+m-1-c)) (at_ ts c) with
  |true=>
   rw[hl] at hL
   repeat(first|(refine st ?_;intros)|(refine cq hL ?_))
   exact Dn.round (s,c) ⟨hls,by omega,by omega,f1,.inr hl⟩ (by dsimp only;omega)
  |false=>
   rw[hl] at hL
   repeat(first|(refine st ?_;intros)|(refine cq hL ?_))
   exact Dn.round (c+1,r) ⟨by omega,by omega,hrh,.inr (by dsimp only;rw[show mid+m-(c+1)=mid+m-1-c by omega];simpa using hl),f2⟩ (by dsimp only;omega)
 obtain rfl:s=r:=by omega
 obtain⟨e,he⟩:∃e,e=mid+m-s:=⟨_,rfl⟩
 have hfin:=fun (us:List T5) hr=>sym_facts hsw (l1:=us) ham hmb s1 s2 hmid.symm rfl he hlow hhigh hls hrh f1 f2 hr
 have hbd:a≤s∧s≤m∧m≤e∧e≤b∧s≤mid∧mid≤e∧mid-s=e-m:=by split at hlow<;>split at hhigh<;>omega
 clear f1 f2 hls hrh hlt hlow hhigh hlohi hhim
 obtain⟨b1,b2,b3,b4,b5,b6,b7⟩:=hbd
 have e6:IntKind.wrap .i64 (((mid+m:Nat):Int)-(s:Int))=(e:Int):=by rw[wrap_i64 (by omega)];omega
 repeat(first|(refine stn ?_;intros)|(refine cq hL ?_))
 apply G.seq
 repeat(first|(refine stn ?_;intros)|(refine cq hL ?_))
 apply G.seq
 repeat(first|(refine stn ?_;intros)|(refine cq hL ?_))
 apply G.seq
 repeat(first|(refine stn ?_;intros)|(refine cq hL ?_))
 refine G.cut (D':=[]) (X:=List T5) (fun us=>TsOk g k n us∧Srt o ts us a b∧∀q,at_ us q=rotF ts s m e q) (fun _=>[(22,.int .i64 (e:Int)),(18,.int .i64 (s:Int)),(16,.int .i64 (mid:Int)),(0,runV bx),(1,.int .i64 (a:Int)),(3,.int .i64 (b:Int))])
  (fun us=>RunH bx g k o us rest) ?_ ?_
 ·by_cases hr:s<m
  ·by_cases hr2:m<e
   ·have hR:=rotate_ct bx g k n o rest ts h s m e hr hr2 (by omega)
    repeat(first|(refine st ?_;intros)|(refine cq hL ?_))
    refine R.call (hct:=hR) (h:= ?_)
    rintro _ _ ⟨rfl,us,rfl,hok,hq⟩
    try dsimp only[List.cons_append,List.nil_append]
    repeat(first|(refine st ?_;intros)|(refine cq hL ?_))
    exact Dn.meet us ⟨hok,Srt.rot b2 b3 (by omega) (by rw[hok.len,hlen]) hq (hfin us hq).1 b1 b4,hq⟩
   ·repeat(first|(refine st ?_;intros)|(refine cq hL ?_))
    exact Dn.meet ts ⟨h,Srt.refl _ _ _ _,fun q=>(rot_id ts (.inr (by omega)) b2 b3 q).symm⟩
  ·repeat(first|(refine st ?_;intros)|(refine cq hL ?_))
   exact Dn.meet ts ⟨h,Srt.refl _ _ _ _,fun q=>(rot_id ts (.inl (by omega)) b2 b3 q).symm⟩
 rintro us ⟨hok,hsrt,hq⟩
 obtain⟨-,⟨q1,q2,q3,q4⟩,hx,-⟩:=hfin us hq
 clear hfin
 refine G.cut (D':=[]) (X:=List T5) (fun vs=>TsOk g k n vs∧Srt o us vs a mid∧Seg (ltO o) vs a mid) (fun _=>[(22,.int .i64 (e:Int)),(18,.int .i64 (s:Int)),(16,.int .i64 (mid:Int)),(0,runV bx),(1,.int .i64 (a:Int)),(3,.int .i64 (b:Int))])
  (fun vs=>RunH bx g k o vs rest) ?_ ?_
 ·by_cases hr:a<s
  ·by_cases hr2:s<mid
   ·have hR:=ih us hok a s mid (by omega) hr hr2 (by omega) q1 q2
    repeat(first|(refine st ?_;intros)|(refine cq hL ?_))
    refine R.call (hct:=hR) (h:= ?_)
    rintro _ _ ⟨rfl,vs,rfl,hok2,hs2,hg2⟩
    try dsimp only[List.cons_append,List.nil_append]
    repeat(first|(refine st ?_;intros)|(refine cq hL ?_))
    exact Dn.meet vs ⟨hok2,hs2,hg2⟩
   ·obtain rfl:s=mid:=by omega
    repeat(first|(refine st ?_;intros)|(refine cq hL ?_))
    exact Dn.meet us ⟨hok,Srt.refl _ _ _ _,q1⟩
  ·obtain rfl:a=s:=by omega
   repeat(first|(refine st ?_;intros)|(refine cq hL ?_))
   exact Dn.meet us ⟨hok,Srt.refl _ _ _ _,q2⟩
 rintro vs ⟨hok2,hs2,hg2⟩
 have q3':=q3.out hs2.2 (.inr (Nat.le_refl _))
 have q4':=q4.out hs2.2 (.inr (by omega))
 have hx2:=cross_keep hx hs2.2
 have hs3:=hsrt.trans (hs2.wide (Nat.le_refl _) (by omega))
 by_cases hr:mid<e
 ·by_cases hr2:e<b
  ·have hR:=ih vs hok2 mid e b (by omega) hr hr2 (by omega) q3' q4'
   repeat(first|(refine st ?_;intros)|(refine cq hL ?_))
   refine R.call (hct:=hR) (h:= ?_)
   rintro _ _ ⟨rfl,ws,rfl,hok4,hs4,hg4⟩
   try dsimp only[List.cons_append,List.nil_append]
   repeat(first|(refine st ?_;intros)|(refine cq hL ?_))
   (refine Dn.postEnd (Hr:=RunH bx g k o ws rest) Tryz.results198 (hR:= ?_);exact⟨rfl,ws,rfl,hok4,hs3.trans (hs4.wide (by omega) (Nat.le_refl _)),seg_join (hg2.out hs4.2 (.inl (Nat.le_refl _))) hg4 (cross_keepR hx2 hs4.2)⟩)
  ·obtain rfl:e=b:=by omega
   repeat(first|(refine st ?_;intros)|(refine cq hL ?_))
   (refine Dn.postEnd (Hr:=RunH bx g k o vs rest) Tryz.results198 (hR:= ?_);exact⟨rfl,vs,rfl,hok2,hs3,seg_join hg2 q3' hx2⟩)
 ·obtain rfl:mid=e:=by omega
  repeat(first|(refine st ?_;intros)|(refine cq hL ?_))
  (refine Dn.postEnd (Hr:=RunH bx g k o vs rest) Tryz.results198 (hR:= ?_);exact⟨rfl,vs,rfl,hok2,hs3,seg_join hg2 q4' hx2⟩)
end
end Go.Proofs.YtammjnjpheobaaaGreat
namespace Go.Srt
variable {α:Type} {lt:α→α→Bool} [Inhabited α]
def Blk (lt:α→α→Bool) (l:List α) (bs n:Nat):Prop:=∀q,Seg lt l (q*bs) (min ((q+1)*bs) n)
def Mid (lt:α→α→Bool) (l:List α) (bs n q:Nat):Prop:=(∀p,p<q→Seg lt l (p*(2*bs)) ((p+1)*(2*bs)))∧∀p,2*q≤p→Seg lt l (p*bs) (min ((p+1)*bs) n)
theorem Seg.sub {l:List α} {a b c d:Nat} (h:Seg lt l a b) (h1:a≤c) (h2:d≤b):Seg lt l c d:=fun i j i1 i2 i3=>h i j (by omega) i2 (by omega)
theorem Seg.none {l:List α} {a b:Nat} (h:b≤a):Seg lt l a b:=fun i j i1 i2 i3=>by omega
theorem mul2 (q bs:Nat):(2*q)*bs=q*(2*bs):=by rw[Nat.mul_comm 2 q,Nat.mul_assoc]
theorem mid_start {l:List α} {bs n:Nat} (h:Blk lt l bs n):Mid lt l bs n 0:=⟨fun p hp=>by omega,fun p _=>h p⟩
theorem mid_get {l:List α} {bs n q a:Nat} (h:Mid lt l bs n q) (ha:a=q*(2*bs)) (hn:a+bs≤n):Seg lt l a (a+bs)∧Seg lt l (a+bs) (min (a+2*bs) n):=by
 have h1:=h.2 (2*q) (Nat.le_refl _)
 have h2:=h.2 (2*q+1) (by omega)
 have e:=mul2 q bs
 rw[Nat.succ_mul (2*q),e,←ha] at h1
 rw[Nat.succ_mul (2*q+1),Nat.succ_mul (2*q),e,←ha] at h2
 refine⟨h1.sub (Nat.le_refl _) (by omega),h2.sub (Nat.le_refl _) (by omega)⟩
theorem mid_step {l l':List α} {bs n q a b:Nat} (h:Mid lt l bs n q) (ha:a=q*(2*bs)) (hb:b=a+2*bs) (hi:Ins l l' a b) (hs:Seg lt l' a b):Mid lt l' bs n (q+1):=by
 refine⟨fun p hp=> ?_,fun p hp=> ?_⟩
 ·by_cases hpq:p=q
  ·subst hpq
   rw[Nat.succ_mul p,←ha,←hb];exact hs
  ·refine(h.1 p (by omega)).out hi (.inl ?_)
   rw[ha];exact Nat.mul_le_mul_right _ (by omega)
 ·refine(h.2 p (by omega)).out hi (.inr ?_)
  have:=Nat.mul_le_mul_right bs hp
  rw[show 2*(q+1)=2*q+1+1 by omega,Nat.succ_mul (2*q+1),Nat.succ_mul (2*q),mul2,←ha] at this
  omega
theorem mid_fin {l l':List α} {bs n q a:Nat} (h:Mid lt l bs n q) (ha:a=q*(2*bs)) (hn:n<a+2*bs) (hi:Ins l l' a n) (hs:Seg lt l' a n):Blk lt l' (2*bs) n:=by
 intro p
 by_cases hpq:p<q
 ·refine(h.1 p hpq).out hi (.inl ?_)|>.sub (Nat.le_refl _) (by omega)
  rw[ha];exact Nat.mul_le_mul_right _ (by omega)
 ·by_cases hp:p=q
  ·subst hp
   rw[←ha];exact hs.sub (Nat.le_refl _) (by omega)
  ·refine Seg.none ?_
   have:=Nat.mul_le_mul_right (2*bs) (show q+1≤p by omega)
   rw[Nat.succ_mul q,←ha] at this
   omega
theorem mid_fin0 {l:List α} {bs n q a:Nat} (h:Mid lt l bs n q) (ha:a=q*(2*bs)) (hn:n≤a+bs) (hb:0<bs):Blk lt l (2*bs) n:=by
 refine mid_fin h ha (by omega) (Ins.refl _ _ _) ?_
 have h1:=h.2 (2*q) (Nat.le_refl _)
 have e:=mul2 q bs
 rw[Nat.succ_mul (2*q),e,←ha] at h1
 exact h1.sub (Nat.le_refl _) (by omega)
theorem blk_one {l:List α} {bs n:Nat} (h:Blk lt l bs n) (hb:n≤bs):Seg lt l 0 n:=by
 have:=h 0
 exact this.sub (by omega) (by omega)
theorem blk_first {l l':List α} {n c a:Nat} (h:∀p,p<c→Seg lt l (p*20) ((p+1)*20)) (ha:a=c*20) (hn:n<a+20) (hi:Ins l l' a n) (hs:Seg lt l' a n):Blk lt l' 20 n:=by
 intro p
 by_cases hpq:p<c
 ·exact(h p hpq).out hi (.inl (by omega))|>.sub (Nat.le_refl _) (by omega)
 ·by_cases hp:p=c
  ·subst hp
   rw[←ha];exact hs.sub (Nat.le_refl _) (by omega)
  ·exact Seg.none (by omega)
end Go.Srt
namespace Go.Proofs.YtammjnjpheobaaaGreat
open Go.SL Go.Spc Go.Tup Go.Srt
section
variable (bx:Nat) (g:Gr) (k n:Nat) (o:T5) (rest:List Int)
theorem stable_ct (ts:List T5) (h:TsOk g k n ts):
  Ct Tryz.prog 192 [runV bx,.int .i64 (n:Int)] (RunH bx g k o ts rest) fun v H'=>
   v= .tuple #[]∧∃ts',H'=RunH bx g k o ts' rest∧TsOk g k n ts'∧Srt o ts ts' 0 n∧Seg (ltO o) ts' 0 n:=by
 have hnn:=h.n_le
 refine Ct.intro Tryz.func192 rfl Tryz.ntmps192 (nle rfl) fun w0=> ?_;dsimp only[argSlots,Nat.reduceAdd]
 repeat(refine st ?_;intros)
 refine G.loop (X:=Nat×List T5) (fun x=>x.1*20≤n∧TsOk g k n x.2∧Srt o ts x.2 0 n∧∀p,p<x.1→Seg (ltO o) x.2 (p*20) ((p+1)*20))
  (fun x=>[(6,.int .i64 ((x.1*20+20:Nat):Int)),(5,.int .i64 ((x.1*20:Nat):Int)),(4,.int .i64 20),(0,runV bx),(1,.int .i64 (n:Int))])
  (fun x=>RunH bx g k o x.2 rest) (fun x=>n+20-x.1*20) (0,ts) ⟨by dsimp only;omega,h,Srt.refl _ _ _ _,fun p hp=>by dsimp only at hp;omega⟩ (body:= ?_)
 rintro⟨c,us⟩ ⟨hc,hok,hs,hq⟩
 dsimp only at hc hok hs hq⊢
 generalize ha:c*20=a at hc⊢
 by_cases hb:a+20≤n
 ·have hI:=insSort_ct bx g k n o rest us hok a (a+20) (by omega) hb
  have e1:IntKind.wrap .i64 (((a+20:Nat):Int)+20)=(((c+1)*20+20:Nat):Int):=by rw[wrap_i64 (by omega)];omega
  repeat(refine st ?_;intros)
  refine R.call (hct:=hI) (h:= ?_)
  rintro _ _ ⟨rfl,vs,rfl,hok2,hs2,hg2⟩
  try dsimp only[List.cons_append,List.nil_append]
  repeat(refine st ?_;intros)
  have e2:a+20=(c+1)*20:=by omega
  refine Dn.round (c+1,vs) ⟨by dsimp only;omega,hok2,hs.trans (hs2.wide (by omega) hb),fun p hp=> ?_⟩ (by dsimp only;omega) ?_ (by repeat(first|exact Split.nil|(apply Split.cons;·(repeat(first|exact Take.here|apply Take.there|exact Take.nil)))))
  ·by_cases hpc:p=c
   ·subst hpc;rw[show(p+1)*20=a+20 by omega,ha];exact hg2
   ·exact(hq p (by dsimp only at hp;omega)).out hs2.2 (.inl (by dsimp only at hp;omega))
  ·rw[e2];exact(by repeat(first|exact trivial|refine⟨rfl,?_⟩))
 have hI:=insSort_ct bx g k n o rest us hok a n hc (Nat.le_refl _)
 repeat(refine st ?_;intros)
 refine R.call (hct:=hI) (h:= ?_)
 rintro _ _ ⟨rfl,vs,rfl,hok2,hs2,hg2⟩
 try dsimp only[List.cons_append,List.nil_append]
 have hB:=blk_first hq ha.symm (by omega) hs2.2 hg2
 have hs3:=hs.trans (hs2.wide (Nat.zero_le _) (Nat.le_refl _))
 clear hs2 hg2 hs hok hq hI
 repeat(refine st ?_;intros)
 refine G.loop (X:=Nat×List T5) (fun x=>0<x.1∧x.1≤2000000020∧TsOk g k n x.2∧Srt o ts x.2 0 n∧Blk (ltO o) x.2 x.1 n)
  (fun x=>[(4,.int .i64 (x.1:Int)),(0,runV bx),(1,.int .i64 (n:Int))])
  (fun x=>RunH bx g k o x.2 rest) (fun x=>n-x.1) (20,vs) ⟨by dsimp only;omega,by dsimp only;omega,hok2,hs3,hB⟩ (body:= ?_)
 clear hB hs3 hok2 vs us
 rintro⟨bs,us⟩ ⟨hb0,hb1,hok,hs,hB⟩
 dsimp only at hb0 hb1 hok hs hB⊢
 by_cases hbn:bs<n
 ·have e1:IntKind.wrap .i64 (2*(bs:Int))=((2*bs:Nat):Int):=by rw[wrap_i64 (by omega)];omega
  have e1':IntKind.wrap .i64 ((bs:Int)*2)=((2*bs:Nat):Int):=by rw[wrap_i64 (by omega)];omega
  repeat(refine st ?_;intros)
  refine G.loop (X:=Nat×List T5) (fun x=>x.1*(2*bs)≤n∧TsOk g k n x.2∧Srt o ts x.2 0 n∧Mid (ltO o) x.2 bs n x.1)
   (fun x=>[(6,.int .i64 ((x.1*(2*bs)+2*bs:Nat):Int)),(5,.int .i64 ((x.1*(2*bs):Nat):Int)),(4,.int .i64 (bs:Int)),(0,runV bx),(1,.int .i64 (n:Int))])
   (fun x=>RunH bx g k o x.2 rest) (fun x=>n+2*bs-x.1*(2*bs)) (0,us) ⟨by simp,hok,hs,mid_start hB⟩ (by simp only[Nat.zero_mul,Nat.zero_add];exact(by repeat(first|exact trivial|refine⟨rfl,?_⟩))) (by repeat(first|exact Split.nil|(apply Split.cons;·(repeat(first|exact Take.here|apply Take.there|exact Take.nil))))) ?_
  clear hok hs hB
  rintro⟨q,us⟩ ⟨hqn,hok,hs,hM⟩
  dsimp only at hqn hok hs hM⊢
  have hq1:(q+1)*(2*bs)=q*(2*bs)+2*bs:=Nat.succ_mul _ _
  generalize ha:q*(2*bs)=a at hqn hq1⊢
  have e2:IntKind.wrap .i64 ((a:Int)+(bs:Int))=((a+bs:Nat):Int):=by rw[←Int.natCast_add];exact wrap_i64 (by omega)
  by_cases hb:a+2*bs≤n
  ·obtain⟨g1,g2⟩:=mid_get hM ha.symm (by omega)
   rw[Nat.min_eq_left hb] at g2
   have hI:=symMerge_ct bx g k n o rest (2*bs) us hok a (a+bs) (a+2*bs) (by omega) (by omega) (by omega) hb g1 g2
   have e3:IntKind.wrap .i64 (((a+2*bs:Nat):Int)+((2*bs:Nat):Int))=(((q+1)*(2*bs)+2*bs:Nat):Int):=by rw[wrap_i64 (by omega)];omega
   repeat(refine st ?_;intros)
   refine R.call (hct:=hI) (h:= ?_)
   rintro _ _ ⟨rfl,vs,rfl,hok2,hs2,hg2⟩
   try dsimp only[List.cons_append,List.nil_append]
   repeat(refine st ?_;intros)
   refine Dn.round (q+1,vs) ⟨by dsimp only;omega,hok2,hs.trans (hs2.wide (by omega) hb),mid_step hM ha.symm rfl hs2.2 hg2⟩ (by dsimp only;omega) ?_ (by repeat(first|exact Split.nil|(apply Split.cons;·(repeat(first|exact Take.here|apply Take.there|exact Take.nil)))))
   rw[←hq1];exact(by repeat(first|exact trivial|refine⟨rfl,?_⟩))
  ·by_cases hm:a+bs<n
   ·obtain⟨g1,g2⟩:=mid_get hM ha.symm (by omega)
    have hI:=symMerge_ct bx g k n o rest n us hok a (a+bs) n (by omega) (by omega) (by omega) (Nat.le_refl _) g1 (g2.sub (Nat.le_refl _) (by omega))
    repeat(refine st ?_;intros)
    refine R.call (hct:=hI) (h:= ?_)
    rintro _ _ ⟨rfl,vs,rfl,hok2,hs2,hg2⟩
    try dsimp only[List.cons_append,List.nil_append]
    repeat(refine st ?_;intros)
    exact Dn.round (2*bs,vs) ⟨by dsimp only;omega,by dsimp only;omega,hok2,hs.trans (hs2.wide (by omega) (Nat.le_refl _)),mid_fin hM ha.symm (by omega) hs2.2 hg2⟩ (by dsimp only;omega)
   ·repeat(refine st ?_;intros)
    exact Dn.round (2*bs,us) ⟨by dsimp only;omega,by dsimp only;omega,hok,hs,mid_fin0 hM ha.symm (by omega) hb0⟩ (by dsimp only;omega)
 ·repeat(refine st ?_;intros)
  (refine Dn.postEnd (Hr:=RunH bx g k o us rest) Tryz.results192 (hR:= ?_);exact⟨rfl,us,rfl,hok,hs,blk_one hB (by omega)⟩)
theorem Stable_ct (ts:List T5) (h:TsOk g k n ts):
  Ct Tryz.prog 180 [runV bx] (RunH bx g k o ts rest) fun v H'=>
   v= .tuple #[]∧∃ts',H'=RunH bx g k o ts' rest∧TsOk g k n ts'∧Go.Srt.Sp (ltO o) false ts ts'∧Sd (ltO o) false ts':=by
 have hN:=RLen_ct bx g k o ts rest
 rw[h.len] at hN
 have hS:=stable_ct bx g k n o rest ts h
 refine Ct.intro Tryz.func180 rfl Tryz.ntmps180 (nle rfl) fun w0=> ?_;dsimp only[argSlots,Nat.reduceAdd]
 repeat(first|(refine st ?_;intros)|(refine cq hN ?_))
 refine R.call (hct:=hS) (h:= ?_)
 rintro _ _ ⟨rfl,vs,rfl,hok2,hs2,hg2⟩
 try dsimp only[List.cons_append,List.nil_append]
 repeat(first|(refine st ?_;intros)|(refine cq hN ?_))
 (refine Dn.postEnd (Hr:=RunH bx g k o vs rest) Tryz.results180 (hR:= ?_);exact⟨rfl,vs,rfl,hok2,hs2.1,seg_sd (by rw[hok2.len];exact hg2)⟩)
end
def emit (o:T5) (once:Bool) (ps:List T5) (t:T5):List T5:=
 match once,ps.getLast? with
 |true,some x=>if cmpT o x t=0 then ps else ps++[t]
 |_,_=>ps++[t]
def Last (ps:List T5) (last:T5) (some:Bool):Prop:=match ps.getLast? with
 |none=>some=false
 | .some x=>some=true∧last=x
theorem Last.put (ps:List T5) (t:T5):Last (ps++[t]) t true:=by simp[Last]
theorem emit_len (o:T5) (once:Bool) (ps:List T5) (t:T5):ps.length≤(emit o once ps t).length∧(emit o once ps t).length≤ps.length+1:=by
 unfold emit
 split
 ·split<;>simp
 ·simp
def sCells (bw:Nat) (o:T5) (once:Bool) (p:Option Addr) (n cap:Nat) (last:T5) (some:Bool):List Value:=
 [pv bw,.int .i64 o.c0,.int .i64 o.c1,.int .i64 o.c2,.int .i64 o.c3,.int .i64 o.c4,.bool once,.slice p n cap,
  .int .i64 last.c0,.int .i64 last.c1,.int .i64 last.c2,.int .i64 last.c3,.int .i64 last.c4,.bool some]
def sRow (bz bw:Nat) (o:T5) (once:Bool) (p:Option Addr) (n cap:Nat) (last:T5) (some:Bool):Chunk:=[(bz,row (sCells bw o once p n cap last some) 186)]
theorem put_ct (bz bw bd ba bs:Nat) (W:Wk) (cd ca cs:Chunk) (h:Wc bd ba bs W cd ca cs) (bx first nb k bound:Nat) (g:Gr) (ps:List T5) (cx cb:Chunk) (hw:IsWr bw bx W first nb k bound g ps cx cb) (Gs:List Gr) (hg:W.α.gs.Perm (g::Gs))
  (Lv:List Ext) (hl:LvOf first nb Lv W.live) (hlt:ps.length<bound) (t:T5) (ht:okT k t) (hac:W.δ.acts≤1000000000000)
  (o:T5) (once:Bool) (p:Option Addr) (n cap:Nat) (last:T5) (some:Bool) (hls:Last ps last some):
  Ct Tryz.prog 181 [pv bz,pv bx,tv t] [sRow bz bw o once p n cap last some,wrow bw bd ba bs,cd,ca,cs,cx,cb] fun v H'=>
   ∃cd' ca' cs' W' cx' cb' last' some',H'=[sRow bz bw o once p n cap last' some',wrow bw bd ba bs,cd',ca',cs',cx',cb']∧Wc bd ba bs W' cd' ca' cs'∧
    Ev W W' ((emit o once ps t).length/holds W.δ.size k-ps.length/holds W.δ.size k) 0∧Keep Lv W W'∧
    ((v= .int .i64 0∧W'.α=W.α∧W'.σ=W.σ∧W'.live=W.live∧IsWr bw bx W' first nb k bound g (emit o once ps t) cx' cb'∧Last (emit o once ps t) last' some')∨
     (v= .int .i64 6∧W.δ.fault=0∧W'.δ=W.δ.failed∧W'.α.gs.Perm Gs∧W'.live.Perm Lv∧ClosedWr bx cx')):=by
 have hP:=Put_u bw bd ba bs W cd ca cs h bx first nb k bound g ps cx cb hw Gs hg Lv hl hlt t ht hac
 have hC:=Compare_ct last.c0 last.c1 last.c2 last.c3 last.c4 t.c0 t.c1 t.c2 t.c3 t.c4 o.c0 o.c1 o.c2 o.c3 o.c4
 have hCc:cmpT ⟨o.c0,o.c1,o.c2,o.c3,o.c4⟩ ⟨last.c0,last.c1,last.c2,last.c3,last.c4⟩ ⟨t.c0,t.c1,t.c2,t.c3,t.c4⟩=cmpT o last t:=rfl
 rw[hCc] at hC
 generalize hcm:cmpT o last t=cm at hC
 unfold sRow sCells
 by_cases hsk:once=true∧some=true∧cm=0
 ·obtain⟨rfl,rfl,rfl⟩:=hsk
  have hem:emit o true ps t=ps:=by
   unfold emit;unfold Last at hls
   cases hgl:ps.getLast? with
   |none=>rw[hgl] at hls;simp at hls
   |some x=>
    rw[hgl] at hls
    obtain⟨_,rfl⟩:=hls
    simp[hcm]
  rw[hem]
  refine Ct.intro Tryz.func181 rfl Tryz.ntmps181 (nle rfl) fun w0=> ?_;dsimp only[argSlots,Nat.reduceAdd]
  repeat(first|(refine st ?_;intros)|refine G.draw (id:=1) [(20,.quiet)] (h:= ?_)|(refine cq hC ?_))
  (refine Dn.post (Hr:=[[(bz,row [pv bw,.int .i64 o.c0,.int .i64 o.c1,.int .i64 o.c2,.int .i64 o.c3,.int .i64 o.c4,.bool true,.slice p n cap,.int .i64 last.c0,.int .i64 last.c1,.int .i64 last.c2,.int .i64 last.c3,.int .i64 last.c4,.bool true] 186)],wrow bw bd ba bs,cd,ca,cs,cx,cb]) Tryz.results181 (hR:= ?_);exact⟨cd,ca,cs,W,cx,cb,last,true,rfl,h,(Ev.refl W).weak (Nat.zero_le _) (Nat.le_refl _),Keep.refl _ _,.inl ⟨rfl,rfl,rfl,rfl,hw,hls⟩⟩)
 have hem:emit o once ps t=ps++[t]:=by
  unfold emit;unfold Last at hls
  cases once with
  |false=>rfl
  |true=>
   cases hgl:ps.getLast? with
   |none=>rfl
   |some x=>
    rw[hgl] at hls
    obtain⟨rfl,rfl⟩:=hls
    have:¬cm=0:=fun e=>hsk ⟨rfl,rfl,e⟩
    simp[hcm,this]
 rw[hem]
 have hPl:=Last.put ps t
 rw[List.length_append,List.length_singleton]
 have htv:tv t= .agg #[.int .i64 t.c0,.int .i64 t.c1,.int .i64 t.c2,.int .i64 t.c3,.int .i64 t.c4]:=rfl
 rw[htv] at hP⊢
 cases ho:once with
 |false=>
  refine Ct.intro Tryz.func181 rfl Tryz.ntmps181 (nle rfl) fun w0=> ?_;dsimp only[argSlots,Nat.reduceAdd]
  repeat(first|(refine st ?_;intros)|refine G.draw (id:=1) [(20,.quiet)] (h:= ?_)|(refine cq hC ?_))
  refine R.call (hct:=hP) (h:= ?_)
  rintro _ _ ⟨cd',ca',cs',W',cx',cb',rfl,hW,hE,hK,hor⟩
  try dsimp only[List.cons_append,List.nil_append]
  repeat(first|(refine st ?_;intros)|refine G.draw (id:=1) [(20,.quiet)] (h:= ?_)|(refine cq hC ?_))
  (refine Dn.post (Hr:=[[(bz,row [pv bw,.int .i64 o.c0,.int .i64 o.c1,.int .i64 o.c2,.int .i64 o.c3,.int .i64 o.c4,.bool false,.slice p n cap,.int .i64 t.c0,.int .i64 t.c1,.int .i64 t.c2,.int .i64 t.c3,.int .i64 t.c4,.bool true] 186)],wrow bw bd ba bs,cd',ca',cs',cx',cb']) Tryz.results181 (hR:= ?_);exact⟨cd',ca',cs',W',cx',cb',t,true,rfl,hW,hE,hK,hor.imp (fun ⟨a1,a2,a3,a4,a5⟩=>⟨a1,a2,a3,a4,a5,hPl⟩) id⟩)
 |true=>
  cases hs:some with
  |false=>
   refine Ct.intro Tryz.func181 rfl Tryz.ntmps181 (nle rfl) fun w0=> ?_;dsimp only[argSlots,Nat.reduceAdd]
   repeat(first|(refine st ?_;intros)|refine G.draw (id:=1) [(20,.quiet)] (h:= ?_)|(refine cq hC ?_))
   refine R.call (hct:=hP) (h:= ?_)
   rintro _ _ ⟨cd',ca',cs',W',cx',cb',rfl,hW,hE,hK,hor⟩
   try dsimp only[List.cons_append,List.nil_append]
   repeat(first|(refine st ?_;intros)|refine G.draw (id:=1) [(20,.quiet)] (h:= ?_)|(refine cq hC ?_))
   (refine Dn.post (Hr:=[[(bz,row [pv bw,.int .i64 o.c0,.int .i64 o.c1,.int .i64 o.c2,.int .i64 o.c3,.int .i64 o.c4,.bool true,.slice p n cap,.int .i64 t.c0,.int .i64 t.c1,.int .i64 t.c2,.int .i64 t.c3,.int .i64 t.c4,.bool true] 186)],wrow bw bd ba bs,cd',ca',cs',cx',cb']) Tryz.results181 (hR:= ?_);exact⟨cd',ca',cs',W',cx',cb',t,true,rfl,hW,hE,hK,hor.imp (fun ⟨a1,a2,a3,a4,a5⟩=>⟨a1,a2,a3,a4,a5,hPl⟩) id⟩)
  |true=>
   have hne:¬cm=0:=fun e=>hsk ⟨ho,hs,e⟩
   refine Ct.intro Tryz.func181 rfl Tryz.ntmps181 (nle rfl) fun w0=> ?_;dsimp only[argSlots,Nat.reduceAdd]
   repeat(first|(refine st ?_;intros)|refine G.draw (id:=1) [(20,.quiet)] (h:= ?_)|(refine cq hC ?_))
   refine R.call (hct:=hP) (h:= ?_)
   rintro _ _ ⟨cd',ca',cs',W',cx',cb',rfl,hW,hE,hK,hor⟩
   try dsimp only[List.cons_append,List.nil_append]
   repeat(first|(refine st ?_;intros)|refine G.draw (id:=1) [(20,.quiet)] (h:= ?_)|(refine cq hC ?_))
   (refine Dn.post (Hr:=[[(bz,row [pv bw,.int .i64 o.c0,.int .i64 o.c1,.int .i64 o.c2,.int .i64 o.c3,.int .i64 o.c4,.bool true,.slice p n cap,.int .i64 t.c0,.int .i64 t.c1,.int .i64 t.c2,.int .i64 t.c3,.int .i64 t.c4,.bool true] 186)],wrow bw bd ba bs,cd',ca',cs',cx',cb']) Tryz.results181 (hR:= ?_);exact⟨cd',ca',cs',W',cx',cb',t,true,rfl,hW,hE,hK,hor.imp (fun ⟨a1,a2,a3,a4,a5⟩=>⟨a1,a2,a3,a4,a5,hPl⟩) id⟩)
theorem eqv_cmp (o x t:T5):eqv (ltO o) x t=true↔cmpT o x t=0:=by
 rw[eqv_iff]
 have:=cmpT_swap o x t
 simp only[ltO,decide_eq_false_iff_not]
 omega
structure Em (o:T5) (once:Bool) (l ps rest:List T5):Prop where
 sd:Sd (ltO o) once ps
 sp:Go.Srt.Sp (ltO o) once l (ps++rest)
 le:∀x∈ps,∀y∈rest,ltO o y x=false
theorem Em.start {o:T5} {once:Bool} {l rest:List T5} (h:Go.Srt.Sp (ltO o) once l rest):Em o once l [] rest:=⟨List.Pairwise.nil,h,fun x hx=>by simp at hx⟩
theorem Em.turn {o:T5} {once:Bool} {l ps rest rest':List T5} (h:Em o once l ps rest) (hs:Go.Srt.Sp (ltO o) once rest rest') (hm:∀y∈rest',y∈rest):Em o once l ps rest':=
 ⟨h.sd,h.sp.trans (Go.Srt.Sp.app (Go.Srt.Sp.refl _ _) hs),fun x hx y hy=>h.le x hx y (hm y hy)⟩
theorem Em.fin {o:T5} {once:Bool} {l ps:List T5} (h:Em o once l ps []):Sd (ltO o) once ps∧Go.Srt.Sp (ltO o) once l ps:=⟨h.sd,by have:=h.sp;rwa[List.append_nil] at this⟩
theorem sp_skip {o:T5} {ps rest:List T5} {z t:T5} (hz:z∈ps) (he:eqv (ltO o) z t=true):Go.Srt.Sp (ltO o) true (ps++t::rest) (ps++rest):=fun c=>by
 rw[List.filter_append,List.filter_append,List.filter_cons]
 cases hct:eqv (ltO o) c t with
 |false=>simp
 |true=>
  have h1:eqv (ltO o) c z=true:=eqv_trans (ltO_swo o) hct (eqv_symm he)
  have h2:z∈ps.filter (eqv (ltO o) c):=List.mem_filter.2 ⟨hz,h1⟩
  simp only[keepC,if_true]
  cases hf:ps.filter (eqv (ltO o) c) with
  |nil=>rw[hf] at h2;simp at h2
  |cons a b=>simp
theorem Em.step {o:T5} {once:Bool} {l ps rest:List T5} {t:T5} (h:Em o once l ps (t::rest)) (hmin:∀y∈rest,ltO o y t=false):Em o once l (emit o once ps t) rest:=by
 have hsw:=ltO_swo o
 have hput:(once=true→∀z,ps.getLast? =some z→cmpT o z t≠0)→Em o once l (ps++[t]) rest:=by
  intro hz
  refine⟨?_,by have:=h.sp;simpa using this,?_⟩
  ·unfold Sd
   rw[List.pairwise_append]
   refine⟨h.sd,List.pairwise_singleton _ _,?_⟩
   intro x hx y hy
   simp only[List.mem_singleton] at hy
   subst hy
   have hyx:=h.le x hx y List.mem_cons_self
   cases once with
   |false=>simpa using hyx
   |true=>
    rw[if_pos rfl]
    obtain⟨qs,z,rfl⟩:∃qs z,ps=qs++[z]:=by
     rcases List.eq_nil_or_concat ps with rfl|⟨qs,z,rfl⟩
     ·simp at hx
     ·exact⟨qs,z,by simp⟩
    have hne:=hz rfl z (by simp)
    have hyz:=h.le z (by simp) y List.mem_cons_self
    have hzy:ltO o z y=true:=by
     cases hc:ltO o z y with
     |true=>rfl
     |false=>exact absurd ((eqv_cmp o z y).1 (eqv_iff.2 ⟨hc,hyz⟩)) hne
    rcases List.mem_append.1 hx with hx|hx
    ·have hsd:=h.sd
     unfold Sd at hsd
     rw[List.pairwise_append] at hsd
     have hxz:=hsd.2.2 x hx z (by simp)
     rw[if_pos rfl] at hxz
     cases hc:ltO o x y with
     |true=>rfl
     |false=>
      have:=hsw.ntrans _ _ _ hc hyz
      rw[hxz] at this;cases this
    ·simp only[List.mem_singleton] at hx
     subst hx;exact hzy
  ·intro x hx y hy
   rcases List.mem_append.1 hx with hx|hx
   ·exact h.le x hx y (List.mem_cons_of_mem _ hy)
   ·simp only[List.mem_singleton] at hx
    subst hx;exact hmin y hy
 unfold emit
 cases once with
 |false=>exact hput (fun e=>by cases e)
 |true=>
  cases hgl:ps.getLast? with
  |none=>exact hput (fun _ z hz=>by rw[hgl] at hz;cases hz)
  |some z=>
   dsimp only
   split
   ·rename_i hc
    exact⟨h.sd,h.sp.trans (sp_skip (List.mem_of_getLast? hgl) ((eqv_cmp o z t).2 hc)),fun x hx y hy=>h.le x hx y (List.mem_cons_of_mem _ hy)⟩
   ·rename_i hc
    exact hput (fun _ z' hz'=>by rw[hgl] at hz';cases hz';exact hc)
def emits (o:T5) (once:Bool) (l:List T5):List T5:=l.foldl (emit o once) []
theorem emits_succ {o:T5} {once:Bool} {l:List T5} {i:Nat} (h:i<l.length):emits o once (l.take (i+1))=emit o once (emits o once (l.take i)) l[i]:=by
 unfold emits
 rw[List.take_add_one,List.foldl_append];simp[h]
theorem emits_len (o:T5) (once:Bool):∀(l:List T5),(emits o once l).length≤l.length:=by
 intro l
 have:∀(l ps:List T5),(l.foldl (emit o once) ps).length≤ps.length+l.length:=by
  intro l
  induction l with
  |nil=>intro ps;simp
  |cons t l ih=>
   intro ps
   have h1:=ih (emit o once ps t)
   have h2:=(emit_len o once ps t).2
   simp only[List.foldl_cons,List.length_cons];omega
 have h:=this l []
 simpa[emits] using h
theorem Em.all {o:T5} {once:Bool} {l:List T5}:∀{m ps:List T5},Em o once l ps m→Sd (ltO o) false m→Em o once l (m.foldl (emit o once) ps) []
 |[],_,h,_=>h
 |t::m,ps,h,hs=>by
  unfold Sd at hs
  rw[List.foldl_cons]
  refine Em.all (ps:=emit o once ps t) (m:=m) (h.step fun y hy=> ?_) (List.Pairwise.of_cons hs)
  have:=List.rel_of_pairwise_cons hs hy
  simpa using this
theorem emits_law {o:T5} {once:Bool} {l m:List T5} (h:Go.Srt.Sp (ltO o) false l m) (hs:Sd (ltO o) false m):Sd (ltO o) once (emits o once m)∧Go.Srt.Sp (ltO o) once l (emits o once m):=
 (Em.all (Em.start h.once_of) hs).fin
structure FillX where
 i:Nat
 cd:Chunk
 c1:Chunk
 cx:Chunk
 cb:Chunk
 W:Wk
 ws:List Int
theorem fits_iff {i c k n:Nat} (hk:1≤k) (hc:c=n/k):(i+1)*k≤n↔i<c:=by
 subst hc
 rw[←Nat.le_div_iff_mul_le (by omega)]
 exact⟨fun h=>h,fun h=>h⟩
theorem fill_ct (bw bd ba bs:Nat) (W:Wk) (cd ca cs:Chunk) (h:Wc bd ba bs W cd ca cs) (bx:Nat) (f:Fl) (fts:List T5) (Lv:List Ext) (hfo:FileOk W.δ.disk W.δ.size Lv f fts) (hsub:∀e∈Lv,e∈W.live) (g g2:Gr) (Gs:List Gr) (hg:W.α.gs.Perm (g::Gs))
  (hg2:g2∈Gs) (pos:Nat) (hpos:pos≤f.count) (cx cb:Chunk) (hr:IsRd bw bx W f fts g pos cx cb) (hac:W.δ.acts≤100000000000) (by_ n0:Nat) (o:T5) (ws:List Int) (hws:ws.length=g2.n) (hgn:g2.n≤1000000000):
  Ct Tryz.prog 162 [pv bx,pv by_] [wrow bw bd ba bs,cd,ca,cs,cx,cb,[(by_,row (runCells g2.bb f.width n0 o) 211)],[(g2.br,row (wcells ws) 158)]] fun v H'=>
   ∃cd' ca' W' cx' cb' ts' ws' m,H'=[wrow bw bd ba bs,cd',ca',cs,cx',cb',[(by_,row (runCells g2.bb f.width m o) 211)],[(g2.br,row (wcells ws') 158)]]∧Wc bd ba bs W' cd' ca' cs∧
    Ev W W' (nblocks W.δ.size f.width (pos+m)-nblocks W.δ.size f.width pos) 0∧W'.δ.disk=W.δ.disk∧W'.σ=W.σ∧W'.live=W.live∧ws'.length=g2.n∧
    ts'=(fts.drop pos).take m∧ws'.take (m*f.width)=words f.width ts'∧
    ((v= .tuple #[.int .i64 (m:Int),.int .i64 0]∧m=min (g2.n/f.width) (f.count-pos)∧W'.α=W.α∧IsRd bw bx W' f fts g (pos+m) cx' cb')∨
     (v= .tuple #[.int .i64 (m:Int),.int .i64 6]∧W.δ.fault≠-1∧W'.α.gs.Perm Gs∧ClosedRd bx cx'∧pos+m≤f.count)):=by
 obtain⟨⟨hs1,hs2⟩,hbk,hfr⟩:=h.dev.num
 have hk1:=hfo.w1
 have hk5:=hfo.w2
 have hcnt:=hfo.cnt
 have htl:=hfo.len
 have hp:=holds_pos hs1 hk1 hk5
 have hgm:g2∈W.α.gs:=hg.mem_iff.2 (List.mem_cons_of_mem _ hg2)
 obtain⟨c1,hc1⟩:=h.ar.open_ hgm
 have h':Wc bd ba bs W cd (c1++[g2.obj]) cs:=⟨h.dev,h.ar.perm hc1.symm,h.sp,h.nn,h.live⟩
 obtain⟨c,hc⟩:∃c,c=g2.n/f.width:=⟨_,rfl⟩
 have hcn:c*f.width≤g2.n:=by rw[hc];exact Nat.div_mul_le_self _ _
 have hcc:c≤g2.n:=by rw[hc];exact Nat.div_le_self _ _
 rw[←hc]
 have hfit:=fun i=>fits_iff (i:=i) hk1 hc
 refine Ct.permH (H2:=[wrow bw bd ba bs,cd,c1,[g2.obj],cs,cx,cb,[(by_,row (runCells g2.bb f.width n0 o) 211)],[(g2.br,row (wcells ws) 158)]]) ?_ ?_
 ·unfold runCells Gr.obj
  refine Ct.intro Tryz.func162 rfl Tryz.ntmps162 (nle rfl) fun w0=> ?_;dsimp only[argSlots,Nat.reduceAdd]
  repeat(first|(refine st ?_;intros)|refine G.draw [] (h:= ?_))
  refine G.loop (X:=FillX) (fun x=>x.i≤c∧pos+x.i≤f.count∧Wc bd ba bs x.W x.cd (x.c1++[g2.obj]) cs∧Ev W x.W (nblocks W.δ.size f.width (pos+x.i)-nblocks W.δ.size f.width pos) 0∧x.W.δ.disk=W.δ.disk∧x.W.σ=W.σ∧x.W.live=W.live∧x.W.α=W.α∧
    IsRd bw bx x.W f fts g (pos+x.i) x.cx x.cb∧x.ws.length=g2.n∧x.ws.take (x.i*f.width)=words f.width ((fts.drop pos).take x.i))
   (fun _=>[(0,pv bx),(1,pv by_)])
   (fun x=>[wrow bw bd ba bs,x.cd,x.c1,[(g2.bb,row [.slice (some ⟨g2.br,0,none⟩) g2.n g2.n] 161)],cs,x.cx,x.cb,[(by_,row [pv g2.bb,.int .i64 (f.width:Int),.int .i64 (x.i:Int),.int .i64 o.c0,.int .i64 o.c1,.int .i64 o.c2,.int .i64 o.c3,.int .i64 o.c4] 211)],[(g2.br,row (wcells x.ws) 158)]])
   (fun x=>c-x.i) ⟨0,cd,c1,cx,cb,W,ws⟩ ⟨Nat.zero_le _,hpos,h',by simpa using Ev.refl W,rfl,rfl,rfl,rfl,hr,hws,by simp⟩ (body:= ?_)
  rintro⟨i,cd1,c2,cx1,cb1,W2,ws2⟩ ⟨hic,hpi,hW2,hE2,hd2,hσ2,hl2,hα2,hr2,hw2,htk⟩
  dsimp only at hic hpi hW2 hE2 hd2 hσ2 hl2 hα2 hr2 hw2 htk⊢
  have hacts:=hE2.acts
  have hsz:=hE2.size
  have hnof:W2.δ.fault=0→W.δ.fault≠-1:=fun e0 e1=>by have:=hE2.fault e1;omega
  have hdl:nblocks W.δ.size f.width (pos+i)≤pos+i:=by
   unfold nblocks
   rw[Nat.div_le_iff_le_mul_add_pred (by omega)]
   have:=Nat.le_mul_of_pos_left (pos+i) (show 0<holds W.δ.size f.width by omega)
   omega
  have hkc:(i+1)*f.width≤1000000005:=by
   have h1:(i+1)*f.width=i*f.width+f.width:=Nat.succ_mul _ _
   have h2:i*f.width≤c*f.width:=Nat.mul_le_mul_right _ hic
   omega
  have e1:IntKind.wrap .i64 ((i:Int)+1)=((i+1:Nat):Int):=by rw[wrap_i64 (by omega)];rfl
  have e2:IntKind.wrap .i64 (((i+1:Nat):Int)*(f.width:Int))=(((i+1)*f.width:Nat):Int):=by rw[←Int.natCast_mul];exact wrap_i64 (by omega)
  have hfi:=hfit i
  generalize hm1:(i+1)*f.width=m1 at*
  by_cases hin:i<c
  ·have hmn:=hfi.2 hin
   repeat(first|(refine st ?_;intros)|refine G.draw [] (h:= ?_))
   apply R1.join (c1:=c2) (c2:=[(g2.bb,row [.slice (some ⟨g2.br,0,none⟩) g2.n g2.n] 161)])
   ·(repeat(first|exact Take.here|apply Take.there))
   ·(repeat(first|exact Take.here|apply Take.there))
   by_cases hpc:pos+i<f.count
   ·have hlt:pos+i<fts.length:=by omega
    have hNx:=Next_u bw bd ba bs W2 cd1 _ cs hW2 bx f fts Lv (by rw[hd2,hsz];exact hfo) (by rw[hl2];exact hsub) g Gs (by rw[hα2];exact hg) (pos+i) cx1 cb1 hr2 fts[pos+i] (List.getElem?_eq_getElem hlt) (by omega)
    have htv:tv fts[pos+i]= .agg (tcells fts[pos+i]).toArray:=rfl
    rw[htv] at hNx
    have hgt:fts[pos+i]∈fts:=List.getElem_mem hlt
    have hokt:=hfo.fit _ hgt
    have htcl:(tcells fts[pos+i]).length=5:=rfl
    have hall:(tcells fts[pos+i]).all Value.oneCell'=true:=rfl
    have hset5:setL [.int .i64 0,.int .i64 0,.int .i64 0,.int .i64 0,.int .i64 0] 0 (tcells fts[pos+i])=tcells fts[pos+i]:=rfl
    have htake:(fts.drop pos).take (i+1)=(fts.drop pos).take i++[fts[pos+i]]:=by
     rw[List.take_add_one];simp[hlt]
    have hget:=tcells_get fts[pos+i]
    have htw:=tw_get fts[pos+i] f.width
    have htwl:=tw_length fts[pos+i] hk5
    generalize hcl:tcells fts[pos+i]=tc at*
    generalize fts[pos+i]=t at*
    refine R.call (hct:=hNx) (h:= ?_)
    rintro _ _ ⟨cd3,ca3,W3,cx3,cb3,rfl,hW3,hE3,hd3,hs3,hl3,⟨rfl,e6,e9⟩|⟨rfl,e6,e7,e8,e9⟩⟩
    try dsimp only[List.cons_append,List.nil_append]
    ·obtain⟨c3,hc3⟩:=hW3.ar.open_ (g:=g2) (by rw[e6,hα2];exact hgm)
     unfold Gr.obj at hc3
     apply R.open hc3
     ·(repeat(first|exact Take.here|apply Take.there))
     obtain⟨B,hB⟩:∃B:Nat→List Int,∀j,B j=bput ws2 (i*f.width) ((tw f.width t).take j):=⟨_,fun _=>rfl⟩
     have hiw:i*f.width+f.width=m1:=by rw[←hm1,Nat.succ_mul]
     have e3:IntKind.wrap .i64 ((i:Int)*(f.width:Int))=((i*f.width:Nat):Int):=by rw[←Int.natCast_mul];exact wrap_i64 (by omega)
     generalize hiwg:i*f.width=iw at*
     have hB0:B 0=ws2:=by rw[hB,List.take_zero,bput_nil]
     have hBk:B f.width=bput ws2 iw (tw f.width t):=by rw[hB,List.take_of_length_le (by omega)]
     have hBl:∀j,(B j).length=g2.n:=fun j=>by rw[hB,bput_length (by rw[List.length_take,htwl,hw2];omega),hw2]
     repeat(first|(refine st ?_;intros)|refine G.draw [] (h:= ?_))
     rename_i b6
     refine G.loop (X:=Nat) (fun j=>j≤f.width) (fun j=>[(56,.int .i64 (j:Int)),(55,.int .i64 (f.width:Int)),(54,.slice (some ⟨b6,0,none⟩) f.width 5),(0,pv bx),(1,pv by_)])
      (fun j=>[[(b6,row tc 49)],c3,[(g2.bb,row [.slice (some ⟨g2.br,0,none⟩) g2.n g2.n] 161)],wrow bw bd ba bs,cd3,cs,cx3,cb3,[(by_,row [pv g2.bb,.int .i64 (f.width:Int),.int .i64 (i:Int),.int .i64 o.c0,.int .i64 o.c1,.int .i64 o.c2,.int .i64 o.c3,.int .i64 o.c4] 211)],[(g2.br,row (wcells (B j)) 158)]])
      (fun j=>f.width-j) 0 (Nat.zero_le _) (by repeat(first|exact trivial|refine⟨rfl,?_⟩)) (by rw[hB0];exact(by repeat(first|exact Split.nil|(apply Split.cons;·(repeat(first|exact Take.here|apply Take.there|exact Take.nil)))))) ?_
     intro j hj
     by_cases hjk:j<f.width
     ·have hgi:=hget j (by omega)
      have hset:(wcells (B j)).set (iw+j) (.int .u64 (wd (t.col j)))=wcells (B (j+1)):=by
       rw[wcells_set,hB,hB,bput_step (htw j hjk hk5) (by rw[htwl,hw2];omega)]
      have hlen:(wcells (B j)).length=g2.n:=by rw[wcells_length,hBl]
      have e4:IntKind.wrap .i64 ((iw:Int)+(j:Int))=((iw+j:Nat):Int):=by rw[←Int.natCast_add];exact wrap_i64 (by omega)
      repeat(first|(refine st ?_;intros)|refine G.draw [] (h:= ?_))
      exact Dn.round (j+1) (by omega) (by omega)
     ·obtain rfl:j=f.width:=by omega
      repeat(first|(refine st ?_;intros)|refine G.draw [] (h:= ?_))
      refine Dn.round ⟨i+1,cd3,c3,cx3,cb3,W3,B f.width⟩ ⟨hin,by dsimp only;omega,⟨hW3.dev,hW3.ar.perm hc3.symm,hW3.sp,hW3.nn,hW3.live⟩,?_,hd3.trans hd2,hs3.trans hσ2,hl3.trans hl2,by rw[e6];exact hα2,by rw[←Nat.add_assoc];exact e9,hBl _,?_⟩ (by dsimp only;omega)
      ·have:=hE2.trans hE3
       rw[hsz] at this
       refine this.weak ?_ (Nat.le_refl _)
       have m1:nblocks W.δ.size f.width pos≤nblocks W.δ.size f.width (pos+i):=nblocks_mono (by omega)
       have m2:nblocks W.δ.size f.width (pos+i)≤nblocks W.δ.size f.width (pos+i+1):=nblocks_mono (by omega)
       dsimp only
       rw[←Nat.add_assoc]
       omega
      ·have:=bput_take (buf:=ws2) (ws:=tw f.width t) (n:=iw) (by rw[htwl,hw2];omega)
       dsimp only
       rw[hm1,show m1=iw+(tw f.width t).length by omega,hBk,this,htake,words_app,htk]
       simp[words]
    ·repeat(first|(refine st ?_;intros)|refine G.draw [] (h:= ?_))
     (refine Dn.post (Hr:=[wrow bw bd ba bs,cd3,ca3,cs,cx3,cb3,[(by_,row (runCells g2.bb f.width i o) 211)],[(g2.br,row (wcells ws2) 158)]]) Tryz.results162 (hR:= ?_);refine⟨cd3,ca3,W3,cx3,cb3,_,ws2,i,rfl,hW3,?_,hd3.trans hd2,hs3.trans hσ2,hl3.trans hl2,hw2,rfl,htk,.inr ⟨rfl,hnof e6,e8,e9,hpi⟩⟩)
     have:=hE2.trans hE3
     exact{this with acts:=⟨this.acts.1,by rw[e7];exact hE2.acts.2⟩}
   ·have hNe:=NextEnd_u bw bx W2 f fts g cx1 cb1 (by rw[show f.count=pos+i by omega];exact hr2)
    have hz:tv T5.zero= .agg (tcells T5.zero).toArray:=rfl
    rw[hz] at hNe
    refine R.call (hct:=hNe) (h:= ?_)
    rintro _ _ ⟨rfl,rfl⟩
    try dsimp only[List.cons_append,List.nil_append]
    repeat(first|(refine st ?_;intros)|refine G.draw [] (h:= ?_))
    (refine Dn.post (Hr:=[wrow bw bd ba bs,cd1,c2++[(g2.bb,row [.slice (some ⟨g2.br,0,none⟩) g2.n g2.n] 161)],cs,cx1,cb1,[(by_,row (runCells g2.bb f.width i o) 211)],[(g2.br,row (wcells ws2) 158)]]) Tryz.results162 (hR:= ?_);refine⟨cd1,_,W2,cx1,cb1,_,ws2,i,rfl,hW2,hE2,hd2,hσ2,hl2,hw2,rfl,htk,.inl ⟨rfl,by omega,hα2,hr2⟩⟩)
  ·have hmn:¬m1≤g2.n:=fun e=>hin (hfi.1 e)
   obtain rfl:i=c:=by omega
   repeat(first|(refine st ?_;intros)|refine G.draw [] (h:= ?_))
   apply Dn.join (c1:=c2) (c2:=[(g2.bb,row [.slice (some ⟨g2.br,0,none⟩) g2.n g2.n] 161)])
   ·(repeat(first|exact Take.here|apply Take.there))
   ·(repeat(first|exact Take.here|apply Take.there))
   (refine Dn.post (Hr:=[wrow bw bd ba bs,cd1,c2++[(g2.bb,row [.slice (some ⟨g2.br,0,none⟩) g2.n g2.n] 161)],cs,cx1,cb1,[(by_,row (runCells g2.bb f.width i o) 211)],[(g2.br,row (wcells ws2) 158)]]) Tryz.results162 (hR:= ?_);refine⟨cd1,_,W2,cx1,cb1,_,ws2,i,rfl,hW2,hE2,hd2,hσ2,hl2,hw2,rfl,htk,.inl ⟨rfl,by omega,hα2,hr2⟩⟩)
 ·simp only[List.flatten_cons,List.flatten_nil,List.append_nil,List.append_assoc]
  refine List.Perm.append_left _ (List.Perm.append_left _ ?_)
  rw[←List.append_assoc c1]
  exact List.Perm.append_right _ hc1
end Go.Proofs.YtammjnjpheobaaaGreat
