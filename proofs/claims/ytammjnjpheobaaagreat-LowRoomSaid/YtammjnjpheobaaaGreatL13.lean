/-
  Parts of the proof, put together (13). No condition.
-/
import Derived.Test.YtammjnjpheobaaaGreatL12
set_option linter.unusedVariables false
set_option linter.unusedSimpArgs false
set_option linter.unnecessarySimpa false
set_option maxHeartbeats 4000000
open Go.IntKind renaming wrap→AH
open Go.Proofs.Tryz renaming prog→AC
open Int renaming toNat_natCast→AP,tdiv_eq_ediv_of_nonneg→CL
open List renaming cons_append→AA,nil_append→AB,getElem?_eq_getElem→AE,length_append→AF,mem_cons_self→AI,mem_cons_of_mem→AJ,getElem?_eq_some_iff→AK,length_cons→AL,mem_cons→AM,getD_eq_getElem?_getD→AN,mem_append→AO,append_nil→AQ,append_assoc→AR,mem_map→AT,map_append→AV,length_map→AX,mem_singleton→AY,mem_of_getElem?→AZ,map_cons→A0,flatMap_cons→A6,getElem?_eq_none→BC,range→BE,mem_range→BF,pairwise_cons→BH,take_add_one→BN,getElem?_map→BP,pairwise_iff_getElem→BQ,replicate→BW,pairwise_map→BX,mem_filter→B3,nodup_append→B5,flatMap_append→B9,nodup_cons→CB,mem_iff_getElem→CC,ext_getElem?→CD,mem_flatMap→CF,pairwise_append→CG,not_mem_nil→CJ,mem_of_find?_eq_some→DE,getElem?_range→DT,map_nil→DY,range_succ→DZ,find?_eq_none→D6,map_map→EE
open List.Pairwise renaming nil→DU,imp_of_mem→DX
open List.Perm renaming swap→CO
open Nat renaming reduceAdd→AD,le_refl→AG,zero_le→AS,succ_mul→BD,add_zero→B6,lt_trichotomy→CV
open Option.some renaming inj→BG
namespace Go.Proofs.YtammjnjpheobaaaGreat
open Go.SL Go.Tup Go.Gr
def aFl (a b:T5):Bool:=decide (a.c1<b.c1∨a.c1=b.c1∧(a.c2<b.c2∨a.c2=b.c2∧a.c0<b.c0))
theorem aIs {a b:T5}:aFl a b=true↔a.c1<b.c1∨a.c1=b.c1∧(a.c2<b.c2∨a.c2=b.c2∧a.c0<b.c0):=decide_eq_true_iff
theorem aVn:Go.Srt.Swo aFl where
 asym a b h:=by
  rw[aIs] at h
  cases hb:aFl b a with
  |false=>rfl
  |true=>rw[aIs] at hb;omega
 ntrans a b c h1 h2:=by
  cases hc:aFl a c with
  |false=>rfl
  |true=>
   have n1:¬(aFl a b=true):=by rw[h1];decide
   have n2:¬(aFl b c=true):=by rw[h2];decide
   rw[aIs] at n1 n2 hc
   omega
theorem bJp (a b:T5):CtQ AC 153 [tv a,tv b] [] (.bool (aFl a b)):=by
 have htv:∀t:T5,tv t= .agg #[.int .i64 t.c0,.int .i64 t.c1,.int .i64 t.c2,.int .i64 t.c3,.int .i64 t.c4]:=fun _=>rfl
 rw[htv,htv]
 by_cases h1:a.c1=b.c1
 ·by_cases h2:a.c2=b.c2
  ·have e:dec (a.c0<b.c0)=aFl a b:=by rw[aEa];unfold aFl;exact decide_eq_decide.2 (by omega)
   refine Ct.intro Tryz.func153 rfl Tryz.ntmps153 (nle rfl) fun w0=> ?_;dsimp only[aAa,AD]
   repeat(refine st ?_;intros)
   (refine Dn.post (Hr:=[]) Tryz.results153 (hR:= ?_);exact⟨congrArg Value.bool e,rfl⟩)
  ·have e:dec (a.c2<b.c2)=aFl a b:=by rw[aEa];unfold aFl;exact decide_eq_decide.2 (by omega)
   refine Ct.intro Tryz.func153 rfl Tryz.ntmps153 (nle rfl) fun w0=> ?_;dsimp only[aAa,AD]
   repeat(refine st ?_;intros)
   (refine Dn.post (Hr:=[]) Tryz.results153 (hR:= ?_);exact⟨congrArg Value.bool e,rfl⟩)
 ·have e:dec (a.c1<b.c1)=aFl a b:=by rw[aEa];unfold aFl;exact decide_eq_decide.2 (by omega)
  refine Ct.intro Tryz.func153 rfl Tryz.ntmps153 (nle rfl) fun w0=> ?_;dsimp only[aAa,AD]
  repeat(refine st ?_;intros)
  (refine Dn.post (Hr:=[]) Tryz.results153 (hR:= ?_);exact⟨congrArg Value.bool e,rfl⟩)
def PutR (l:List T5) (t:T5) (r:List T5):Prop:=∃A B,l=A++B∧r=A++t::B∧(∀b∈B,aFl t b=true)∧∀x,A.getLast? =some x→aFl t x=false
def Sa (l:List T5):Prop:=l.Pairwise fun a b=>aFl b a=false
theorem PutR.perm {l r:List T5} {t:T5} (h:PutR l t r):r.Perm (t::l):=by
 obtain⟨A,B,rfl,rfl,_⟩:=h
 exact List.perm_middle
theorem PutR.sa {l r:List T5} {t:T5} (h:PutR l t r) (hs:Sa l):Sa r:=by
 obtain⟨A,B,rfl,rfl,hB,hA⟩:=h
 unfold Sa at hs⊢
 rw[CG] at hs⊢
 have hAt:∀a∈A,aFl t a=false:=by
  intro a ha
  rcases List.eq_nil_or_concat A with rfl|⟨A',x,rfl⟩
  ·simp at ha
  ·rw[List.concat_eq_append] at*
   have hx:=hA x (by simp)
   rcases AO.1 ha with h|h
   ·have h1:=(CG.1 hs.1).2.2 a h x (by simp)
    exact aVn.ntrans _ _ _ hx h1
   ·simp only[AY] at h;subst h;exact hx
 rw[BH]
 exact⟨hs.1,⟨fun b hb=>aVn.asym _ _ (hB b hb),hs.2.1⟩,fun a ha b hb=>by
  rcases AM.1 hb with rfl|hb
  ·exact hAt a ha
  ·exact hs.2.2 a ha b hb⟩
structure PutX where
 kz:Int
 A:List T5
 B:List T5
theorem bGj (p:Option Addr) (m cap:Nat) (l:List T5) (c:aAc) (hV:Vec 49 5 p m cap (flat l) c) (hm:m≤1000000) (t:T5):
  Ct AC 119 [.slice p m cap,tv t] [c] fun v H'=>∃p' cap' c' r,v= .slice p' (m+1) cap'∧H'=[c']∧Vec 49 5 p' (m+1) cap' (flat r) c'∧PutR l t r:=by
 have htv:∀t:T5,tv t= .agg #[.int .i64 t.c0,.int .i64 t.c1,.int .i64 t.c2,.int .i64 t.c3,.int .i64 t.c4]:=fun _=>rfl
 have hLs:=fun a b=>bJp a b
 have hl:l.length=m:=by have:=hV.1;rw[aHa] at this;omega
 have hmx:m+1≤maxLen:=by simp only[maxLen];omega
 simp only[htv] at hLs
 rw[htv]
 refine Ct.intro Tryz.func119 rfl Tryz.ntmps119 (nle rfl) fun w0=> ?_;dsimp only[aAa,AD]
 repeat(first|(refine st ?_;intros)|refine G.draw (id:=3) [(12,.quiet)] (h:= ?_)|(refine cq hL ?_))
 rename_i b3 b9 p' cap' c' hV'
 have hV2:Vec 49 5 p' (m+1) cap' (flat (l++[t])) c':=by rw[flat_append];exact hV'
 obtain⟨rb,re,rfl,rfl,hre,hce,hcm⟩:=bGf hV2 (Nat.succ_pos _)
 clear hV hV'
 rw[aHa,AF,List.length_singleton,hl] at hre
 have hw:((m+1:Nat):Int)-1=(m:Int):=by omega
 refine G.loop (X:=PutX) (fun x=>x.A++x.B=l∧x.kz=(x.A.length:Int)∧∀u∈x.B,aFl t u=true)
  (fun x=>[(5,.int .i64 x.kz),(0,.slice (some ⟨rb,0,none⟩) (m+1) cap')])
  (fun x=>[[(rb,row (flat (x.A++t::x.B)++re) 49)]]) (fun x=>x.A.length) ⟨((m+1:Nat):Int)-1,l,[]⟩ ⟨by simp,by dsimp only;omega,by simp⟩ (body:= ?_)
 rintro⟨kz,A,B⟩ ⟨hAB,hkz,hB⟩
 dsimp only at hAB hkz hB⊢
 have hABl:A.length+B.length=m:=by rw[←hl,←hAB,AF]
 have hend:Vec 49 5 (some ⟨rb,0,none⟩) (m+1) cap' (flat (A++t::B)) [(rb,row (flat (A++t::B)++re) 49)]:=
  Vec.mk' rfl (by rw[aHa];simp;omega) (by rw[AF,aHa];simp;omega) hce hcm
 rcases List.eq_nil_or_concat A with rfl|⟨A',x,rfl⟩
 ·have hk0:kz=0:=by simpa using hkz
  repeat(first|(refine st ?_;intros)|refine G.draw (id:=3) [(12,.quiet)] (h:= ?_)|(refine cq hL ?_))
  (refine Dn.post (Hr:=[[(rb,row (flat ([]++t::B)++re) 49)]]) Tryz.results119 (hR:= ?_);exact⟨_,cap',_,_,rfl,rfl,hend,[],B,hAB.symm,rfl,hB,by simp⟩)
 ·have hkA:kz=((A'.length+1:Nat):Int):=by simpa using hkz
  have ek:kz.toNat=A'.length+1:=by omega
  have ek1:(kz-1).toNat=A'.length:=by omega
  have hA1:A'.length+1+B.length=m:=by simpa using hABl
  have hform:∀u v:T5,(A'++[u])++v::B=A'++u::v::B:=fun u v=>by simp
  rw[List.concat_eq_append] at*
  rw[hform] at hend⊢
  have c1:=t_cut (A'++[x]) B t re (k:=A'.length+1) (by simp)
  have c2:=t_cut A' (t::B) x re rfl
  have s1:=t_set (A'++[x]) B t x re (k:=A'.length+1) (by simp)
  have s2:=t_set A' (x::B) x t re rfl
  simp only[hform] at c1 s1
  have l1:(A'.length+1)*5+5≤(flat (A'++x::t::B)++re).length:=by rw[AF,aHa];simp;omega
  have l2:(A'.length+1)*5+5≤(flat (A'++x::x::B)++re).length:=by rw[AF,aHa];simp;omega
  have hL:=hLs t x
  cases hxt:aFl t x with
  |true=>
   rw[hxt] at hL
   generalize hr0:flat (A'++x::t::B)++re=r0 at*
   generalize hr1:flat (A'++x::x::B)++re=r1 at*
   repeat(first|(refine st ?_;intros)|refine G.draw (id:=3) [(12,.quiet)] (h:= ?_)|(refine cq hL ?_))
   refine Dn.round ⟨kz-1,A',x::B⟩ ⟨by rw[←hAB];simp,by dsimp only;omega,fun u hu=> ?_⟩ (by simp)
   rcases AM.1 hu with rfl|hu
   ·exact hxt
   ·exact hB u hu
  |false=>
   rw[hxt] at hL
   generalize hr0:flat (A'++x::t::B)++re=r0 at*
   repeat(first|(refine st ?_;intros)|refine G.draw (id:=3) [(12,.quiet)] (h:= ?_)|(refine cq hL ?_))
   (refine Dn.post (Hr:=[[(rb,row r0 49)]]) Tryz.results119 (hR:= ?_);exact⟨_,cap',_,A'++x::t::B,rfl,rfl,hend,A'++[x],B,hAB.symm,by simp,hB,fun y hy=>by simp at hy;subst hy;exact hxt⟩)
def aMp (a:List T5) (t:T5):List T5:=[⟨2*t.c0,t.c1,t.c2,(at5 a t.c1.toNat).c1,0⟩,⟨2*t.c0+1,t.c2,t.c1,(at5 a t.c1.toNat).c1,0⟩]
def aMa (a f:List T5):List T5:=f.flatMap (aMp a)
theorem bBx {a f:List T5} {i:Nat} {t:T5} (h:f[i]? =some t):aMa a (f.take (i+1))=aMa a (f.take i)++aMp a t:=by
 unfold aMa;rw[BN,h];simp
structure ArX where
 i:Nat
 n:Nat
 p:Option Addr
 cap:Nat
 ch:aAc
 r:List T5
theorem bJq (pa:Option Addr) (na ka:Nat) (a:List T5) (ca:aAc) (hva:RV pa na a ca) (pf:Option Addr) (nf kf:Nat) (f:List T5) (cf:aAc) (hvf:RV pf nf f cf) (hn:nf≤100000) (hna:na≤1000000)
  (hf:∀t∈f,0≤t.c0∧t.c0≤1099511627776∧0≤t.c1∧t.c1<na):
  Ct AC 69 [.slice pa na ka,.slice pf nf kf] [ca,cf] fun v H'=>∃p cap c r,v= .slice p (2*nf) cap∧H'=[ca,cf,c]∧Vec 49 5 p (2*nf) cap (flat r) c∧r.Perm (aMa a f)∧Sa r:=by
 have hfl:=hvf.1
 have hal:=hva.1
 have htv:∀t:T5,tv t= .agg #[.int .i64 t.c0,.int .i64 t.c1,.int .i64 t.c2,.int .i64 t.c3,.int .i64 t.c4]:=fun _=>rfl
 refine Ct.intro Tryz.func69 rfl Tryz.ntmps69 (nle rfl) fun w0=> ?_;dsimp only[aAa,AD]
 repeat(first|(refine st ?_;intros)|refine G.draw [] (h:= ?_))
 refine G.loop (X:=ArX) (fun x=>x.i≤nf∧x.n=2*x.i∧Vec 49 5 x.p x.n x.cap (flat x.r) x.ch∧x.r.Perm (aMa a (f.take x.i))∧Sa x.r)
  (fun x=>[(6,.int .i64 (x.i:Int)),(5,.slice x.p x.n x.cap),(1,.slice pf nf kf),(0,.slice pa na ka)])
  (fun x=>[ca,cf,x.ch]) (fun x=>nf-x.i) ⟨0,0,none,0,[],[]⟩ ⟨AS _,rfl,Vec.nil _ _,by simp[aMa],DU⟩ (by repeat(first|exact trivial|refine⟨rfl,?_⟩)) (by repeat(first|exact aAo.nil|(apply aAo.cons;·(first|exact aAn.nil|(repeat(first|exact aAn.here|apply aAn.there)))))) ?_
 rintro⟨i,n,p,cap,ch,r⟩ ⟨hi,hni,hV,hp,hs⟩
 dsimp only at hi hni hV hp hs⊢
 by_cases hlt:i<nf
 ·obtain⟨b,off,cs,T,fz,rfl,rfl,_,hget⟩:=(RV.rw hvf).pos aAr (by omega)
  have hit:f[i]? =some f[i]:=AE (by omega)
  have q0:=hget i 0 _ _ hit rfl
  have q1:=hget i 1 _ _ hit rfl
  have q2:=hget i 2 _ _ hit rfl
  rw[B6] at q0
  obtain⟨f1,f2,f3,f4⟩:=hf _ (AZ hit)
  have htk:=bBx (a:=a) hit
  generalize ht:f[i]=t at*
  obtain⟨u,hu⟩:∃u:Nat,t.c1=(u:Int):=⟨t.c1.toNat,by omega⟩
  have hut:t.c1.toNat=u:=by omega
  obtain⟨b2,off2,cs2,T2,fz2,rfl,rfl,_,hget2⟩:=(RV.rw hva).pos aAr (by omega)
  have hat:a[u]? =some a[u]:=AE (by omega)
  have r1:=hget2 u 1 _ _ hat rfl
  have hat5:at5 a t.c1.toNat=a[u]:=by rw[hut];unfold at5;rw[AN,hat];rfl
  generalize ha:a[u]=w at*
  have e1:AH .i64 (2*t.c0)=2*t.c0:=aAd (by omega)
  have e2:AH .i64 (2*t.c0+1)=2*t.c0+1:=aAd (by omega)
  have hP:=bGj p n cap r ch hV (by omega) ⟨2*t.c0,t.c1,t.c2,w.c1,0⟩
  rw[htv] at hP
  repeat(first|(refine st ?_;intros)|refine G.draw [] (h:= ?_))
  refine R.call (hct:=hP) (h:= ?_)
  rintro _ _ ⟨p1,cap1,ch1,r1',rfl,rfl,hV1,hR1⟩
  try dsimp only[AA,AB]
  have hP2:=bGj p1 (n+1) cap1 r1' ch1 hV1 (by omega) ⟨2*t.c0+1,t.c2,t.c1,w.c1,0⟩
  rw[htv] at hP2
  repeat(first|(refine st ?_;intros)|refine G.draw [] (h:= ?_))
  refine R.call (hct:=hP2) (h:= ?_)
  rintro _ _ ⟨p2,cap2,ch2,r2,rfl,rfl,hV2,hR2⟩
  try dsimp only[AA,AB]
  repeat(first|(refine st ?_;intros)|refine G.draw [] (h:= ?_))
  refine Dn.round ⟨i+1,n+1+1,p2,cap2,ch2,r2⟩ ⟨hlt,by dsimp only;omega,hV2,?_,hR2.sa (hR1.sa hs)⟩ (by dsimp only;omega)
  dsimp only
  rw[htk]
  unfold aMp
  rw[hat5]
  refine hR2.perm.trans (((hR1.perm.trans (hp.cons _)).cons _).trans ?_)
  refine(CO _ _ _).trans ?_
  exact List.perm_append_comm (l₁:=[_,_])
 ·obtain rfl:i=nf:=by omega
  rw[List.take_of_length_le (by omega)] at hp
  obtain rfl:=hni
  repeat(first|(refine st ?_;intros)|refine G.draw [] (h:= ?_))
  (refine Dn.post (Hr:=[ca,cf,ch]) Tryz.results69 (hR:= ?_);exact⟨p,cap,ch,r,rfl,rfl,hV,hp,hs⟩)
def aEw (r:List T5):Nat→Nat
 |0=>0
 |k+1=>if(at5 r k).c1=(at5 r (k+1)).c1 then aEw r k else k+1
def aCj (r:List T5) (k:Nat):Nat:=if k+1<r.length∧(at5 r (k+1)).c1=(at5 r k).c1 then k+1 else aEw r k
theorem aBs {r:List T5} {k:Nat} (h:k<r.length):r[k]? =some (at5 r k):=by unfold at5;rw[AN,AE h];rfl
theorem bAa (r:List T5):∀k,aEw r k≤k
 |0=>AG _
 |k+1=>by unfold aEw;split;exact Nat.le_succ_of_le (bAa r k);exact AG _
theorem bBy {r:List T5} {k:Nat} (h:k<r.length):aCj r k<r.length:=by
 unfold aCj;split
 ·omega
 ·have:=bAa r k;omega
theorem bBz (p:Option Addr) (m cap:Nat) (r:List T5) (c:aAc) (hv:RV p m r c) (hm:m≤1000000) (k:Nat) (hk:k<m):
  CtQ AC 70 [.slice p m cap,.int .i64 (k:Int)] [c] (.int .i64 (aCj r k:Int)):=by
 have hl:=hv.1
 obtain⟨b,off,cs,T,fz,rfl,rfl,_,hget⟩:=(RV.rw hv).pos aAr (by omega)
 have hg:∀j,j<m→cs[off+j*5+1]? =some (.int .i64 (at5 r j).c1):=fun j hj=>hget j 1 _ _ (aBs (by omega)) rfl
 have q0:=hg k hk
 have ek:((k:Int)+1).toNat=k+1:=by omega
 by_cases h1:k+1<m
 ·have q1:=hg (k+1) h1
  by_cases h2:(at5 r (k+1)).c1=(at5 r k).c1
  ·have hb:aCj r k=k+1:=by unfold aCj;rw[if_pos ⟨by omega,h2⟩]
   have hb2:((aCj r k:Nat):Int)=(k:Int)+1:=by omega
   rw[hb2]
   refine Ct.intro Tryz.func70 rfl Tryz.ntmps70 (nle rfl) fun w0=> ?_;dsimp only[aAa,AD]
   repeat(first|(refine st ?_;intros)|refine G.draw [] (h:= ?_))
   (refine Dn.post (Hr:=[[(b,aCa cs T fz)]]) Tryz.results70 (hR:= ?_);exact⟨rfl,rfl⟩)
  ·have hb:aCj r k=aEw r k:=by unfold aCj;rw[if_neg (fun h=>h2 h.2)]
   rw[hb]
   refine Ct.intro Tryz.func70 rfl Tryz.ntmps70 (nle rfl) fun w0=> ?_;dsimp only[aAa,AD]
   repeat(first|(refine st ?_;intros)|refine G.draw [] (h:= ?_))
   refine G.loop (X:=Int) (fun z=>0≤z∧z<(m:Int)∧aEw r z.toNat=aEw r k) (fun z=>[(1,.int .i64 z),(0,.slice (some ⟨b,off,none⟩) m cap)])
    (fun _=>[[(b,aCa cs T fz)]]) (fun z=>z.toNat) (k:Int) ⟨by omega,by omega,by rw[AP]⟩ (body:= ?_)
   rintro z ⟨z0,zm,hz⟩
   obtain⟨j,rfl⟩:∃j:Nat,z=(j:Int):=⟨z.toNat,by omega⟩
   have ej:((j:Int)).toNat=j:=AP j
   rw[ej] at hz
   cases j with
   |zero=>
    have hh:aEw r k=0:=by rw[←hz];rfl
    repeat(first|(refine st ?_;intros)|refine G.draw [] (h:= ?_))
    (refine Dn.post (Hr:=[[(b,aCa cs T fz)]]) Tryz.results70 (hR:= ?_);exact⟨congrArg (Value.int .i64) (by omega),rfl⟩)
   |succ j=>
    have w0:=hg (j+1) (by omega)
    have w1:=hg j (by omega)
    have ej1:(((j+1:Nat):Int)-1).toNat=j:=by omega
    have ej2:((j+1:Nat):Int)-1=(j:Int):=by omega
    by_cases h3:(at5 r j).c1=(at5 r (j+1)).c1
    ·have hs:aEw r (j+1)=aEw r j:=by rw[aEw,if_pos h3]
     repeat(first|(refine st ?_;intros)|refine G.draw [] (h:= ?_))
     refine Dn.round (((j+1:Nat):Int)-1) ⟨by omega,by omega,by rw[ej1,←hz,hs]⟩ (by omega)
    ·have hs:aEw r (j+1)=j+1:=by rw[aEw,if_neg h3]
     repeat(first|(refine st ?_;intros)|refine G.draw [] (h:= ?_))
     (refine Dn.post (Hr:=[[(b,aCa cs T fz)]]) Tryz.results70 (hR:= ?_);exact⟨congrArg (Value.int .i64) (by omega),rfl⟩)
 ·have hb:aCj r k=aEw r k:=by unfold aCj;rw[if_neg (fun h=>h1 (by omega))]
  rw[hb]
  refine Ct.intro Tryz.func70 rfl Tryz.ntmps70 (nle rfl) fun w0=> ?_;dsimp only[aAa,AD]
  repeat(first|(refine st ?_;intros)|refine G.draw [] (h:= ?_))
  refine G.loop (X:=Int) (fun z=>0≤z∧z<(m:Int)∧aEw r z.toNat=aEw r k) (fun z=>[(1,.int .i64 z),(0,.slice (some ⟨b,off,none⟩) m cap)])
   (fun _=>[[(b,aCa cs T fz)]]) (fun z=>z.toNat) (k:Int) ⟨by omega,by omega,by rw[AP]⟩ (body:= ?_)
  rintro z ⟨z0,zm,hz⟩
  obtain⟨j,rfl⟩:∃j:Nat,z=(j:Int):=⟨z.toNat,by omega⟩
  have ej:((j:Int)).toNat=j:=AP j
  rw[ej] at hz
  cases j with
  |zero=>
   have hh:aEw r k=0:=by rw[←hz];rfl
   repeat(first|(refine st ?_;intros)|refine G.draw [] (h:= ?_))
   (refine Dn.post (Hr:=[[(b,aCa cs T fz)]]) Tryz.results70 (hR:= ?_);exact⟨congrArg (Value.int .i64) (by omega),rfl⟩)
  |succ j=>
   have w0:=hg (j+1) (by omega)
   have w1:=hg j (by omega)
   have ej1:(((j+1:Nat):Int)-1).toNat=j:=by omega
   have ej2:((j+1:Nat):Int)-1=(j:Int):=by omega
   by_cases h3:(at5 r j).c1=(at5 r (j+1)).c1
   ·have hs:aEw r (j+1)=aEw r j:=by rw[aEw,if_pos h3]
    repeat(first|(refine st ?_;intros)|refine G.draw [] (h:= ?_))
    refine Dn.round (((j+1:Nat):Int)-1) ⟨by omega,by omega,by rw[ej1,←hz,hs]⟩ (by omega)
   ·have hs:aEw r (j+1)=j+1:=by rw[aEw,if_neg h3]
    repeat(first|(refine st ?_;intros)|refine G.draw [] (h:= ?_))
    (refine Dn.post (Hr:=[[(b,aCa cs T fz)]]) Tryz.results70 (hR:= ?_);exact⟨congrArg (Value.int .i64) (by omega),rfl⟩)
def itF (f:Nat→Nat):Nat→Nat→Nat
 |0,x=>x
 |n+1,x=>f (itF f n x)
theorem aBy {m:Nat} {f:Nat→Nat} (hf:∀k,k<m→f k<m) {i:Nat} (hi:i<m):∀n,itF f n i<m
 |0=>hi
 |n+1=>hf _ (aBy hf hi n)
theorem aIt (f:Nat→Nat) (b x:Nat):∀a,itF f (a+b) x=itF f a (itF f b x)
 |0=>by rw[Nat.zero_add];rfl
 |a+1=>by rw[Nat.succ_add];show f _=f _;rw[aIt f b x a]
theorem aSo {m:Nat} {f:Nat→Nat} (hf:∀k,k<m→f k<m) (hj:∀a b,a<m→b<m→f a=f b→a=b) {x y:Nat} (hx:x<m) (hy:y<m):∀n,itF f n x=itF f n y→x=y
 |0,h=>h
 |n+1,h=>aSo hf hj hx hy n (hj _ _ (aBy hf hx n) (aBy hf hy n) h)
theorem aFf {g:Nat→Nat}:∀{n:Nat},¬((BE n).map g).Nodup→∃a b,a<b∧b<n∧g a=g b
 |0,h=>(h (by simp)).elim
 |n+1,h=>by
  rw[DZ,AV,B5] at h
  by_cases h1:((BE n).map g).Nodup
  ·by_cases h2:g n∈(BE n).map g
   ·obtain⟨a,ha,he⟩:=AT.1 h2
    exact⟨a,n,BF.1 ha,Nat.lt_succ_self n,he⟩
   ·refine(h ⟨h1,by simp,?_⟩).elim
    intro x hx y hy e
    simp only[A0,DY,AY] at hy
    subst hy;subst e;exact h2 hx
  ·obtain⟨a,b,h1,h2,h3⟩:=aFf h1
   exact⟨a,b,h1,Nat.lt_succ_of_lt h2,h3⟩
theorem aYb {m:Nat} {f:Nat→Nat} (hf:∀k,k<m→f k<m) (hj:∀a b,a<m→b<m→f a=f b→a=b) {i:Nat} (hi:i<m):∃P,0<P∧P≤m∧itF f P i=i:=by
 have hn:¬((BE (m+1)).map fun n=>itF f n i).Nodup:=by
  intro h
  have:=h.length_le_of_subset (l₂:=BE m) (by
   intro x hx
   obtain⟨n,_,rfl⟩:=AT.1 hx
   exact BF.2 (aBy hf hi n))
  simp at this
  omega
 obtain⟨a,b,h1,h2,h3⟩:=aFf hn
 refine⟨b-a,by omega,by omega,?_⟩
 have h4:b=a+(b-a):=by omega
 rw[h4,aIt] at h3
 exact(aSo hf hj hi (aBy hf hi _) a h3).symm
def perF (f:Nat→Nat) (m i:Nat):Nat:=((BE m).find? fun n=>itF f (n+1) i==i).getD 0+1
theorem bGk {m:Nat} {f:Nat→Nat} {i:Nat} (h:∃P,0<P∧P≤m∧itF f P i=i):0<perF f m i∧perF f m i≤m∧itF f (perF f m i) i=i∧∀n,0<n→n<perF f m i→itF f n i≠i:=by
 obtain⟨P,h0,hP,hi⟩:=h
 unfold perF
 cases hf:(BE m).find? fun n=>itF f (n+1) i==i with
 |none=>
  rw[D6] at hf
  refine(hf (P-1) (BF.2 (by omega)) ?_).elim
  rw[show P-1+1=P by omega,hi];simp
 |some q=>
  rw[List.find?_range_eq_some] at hf
  obtain⟨h1,h2,h3⟩:=hf
  rw[BF] at h2
  refine⟨Nat.succ_pos _,h2,by simpa using h1,?_⟩
  intro n hn hq he
  have:=h3 (n-1) (by simp only[Option.getD_some] at hq;omega)
  rw[show n-1+1=n by omega,he] at this
  simp at this
theorem bAb {r:List T5} {k:Nat} (h:k<r.length):at5 r k∈r:=AZ (aBs h)
theorem aSp {r:List T5} {t:T5} (h:t∈r):∃k,k<r.length∧at5 r k=t:=by
 obtain⟨k,hk,rfl⟩:=CC.1 h
 exact⟨k,hk,BG ((aBs hk).symm.trans (AE hk))⟩
theorem bGl {r:List T5} (hs:Sa r) {i j:Nat} (hij:i<j) (hj:j<r.length):aFl (at5 r j) (at5 r i)=false:=by
 have h1:=aBs (Nat.lt_trans hij hj)
 have h2:=aBs hj
 rw[AK] at h1 h2
 obtain⟨_,h1⟩:=h1
 obtain⟨_,h2⟩:=h2
 rw[←h1,←h2]
 exact BQ.1 hs i j _ _ hij
theorem aVo {r:List T5} (hs:Sa r) {i j:Nat} (hij:i≤j) (hj:j<r.length):(at5 r i).c1≤(at5 r j).c1:=by
 rcases Nat.eq_or_lt_of_le hij with rfl|h
 ·exact Int.le_refl _
 ·have h1:=bGl hs h hj
  have h2:¬(aFl (at5 r j) (at5 r i)=true):=by rw[h1];decide
  rw[aIs] at h2
  omega
theorem aRb (r:List T5):∀k,(at5 r (aEw r k)).c1=(at5 r k).c1
 |0=>rfl
 |k+1=>by
  unfold aEw
  split
  next h=>rw[aRb r k,h]
  next=>rfl
theorem aMb (r:List T5):∀{k j:Nat},aEw r k=j+1→(at5 r j).c1≠(at5 r (j+1)).c1
 |0,j,h=>by unfold aEw at h;omega
 |k+1,j,h=>by
  unfold aEw at h
  split at h
  next=>exact aMb r h
  next hne=>
        obtain rfl:k=j:=by omega
        exact hne
theorem aIu (r:List T5) (k:Nat):(at5 r (aCj r k)).c1=(at5 r k).c1:=by
 unfold aCj;split
 next h=>exact h.2
 next=>exact aRb r k
theorem aYc {r:List T5} (hs:Sa r) {a b:Nat} (ha:a<r.length) (hb:b<r.length) (h:aCj r a=aCj r b):a=b:=by
 have hc:(at5 r a).c1=(at5 r b).c1:=by rw[←aIu r a,←aIu r b,h]
 unfold aCj at h
 split at h
 next h1=>
  split at h
  next h2=>omega
  next h2=>exact absurd h1.2.symm (aMb r h.symm)
 next h1=>
  split at h
  next h2=>exact absurd h2.2.symm (aMb r h)
  next h2=>
   rcases CV a b with h3|h3|h3
   ·have e1:=aVo hs (show a≤a+1 by omega) (show a+1<r.length by omega)
    have e2:=aVo hs (show a+1≤b from h3) hb
    exact absurd ⟨by omega,by omega⟩ h1
   ·exact h3
   ·have e1:=aVo hs (show b≤b+1 by omega) (show b+1<r.length by omega)
    have e2:=aVo hs (show b+1≤a from h3) ha
    exact absurd ⟨by omega,by omega⟩ h2
def aBi (r:List T5) (k:Nat):Nat:=((BE r.length).find? fun i=>decide (i≠k∧(at5 r i).c0.tdiv 2=(at5 r k).c0.tdiv 2)).getD k
theorem aCk {r:List T5} {k:Nat} (h:k<r.length):aBi r k<r.length:=by
 unfold aBi
 cases hf:(BE r.length).find? fun i=>decide (i≠k∧(at5 r i).c0.tdiv 2=(at5 r k).c0.tdiv 2) with
 |none=>exact h
 |some q=>exact BF.1 (DE hf)
structure aIc (a f r:List T5):Prop where
 perm:r.Perm (aMa a f)
 sa:Sa r
 nd:(f.map (·.c0)).Nodup
 pos:∀t∈f,0≤t.c0
def aFm (x:Int):Int:=if x%2=0 then x+1 else x-1
theorem aKx:∀{f:List T5},(f.map (·.c0)).Nodup→∀(a:List T5),((aMa a f).map (·.c0)).Nodup
 |[],_,_=>by simp[aMa]
 |t::f,h,a=>by
  rw[A0,CB] at h
  have ih:=aKx h.2 a
  have hm:∀x∈aMa a f,∃e∈f,x.c0=2*e.c0∨x.c0=2*e.c0+1:=by
   intro x hx
   obtain⟨e,he,hx⟩:=CF.1 hx
   refine⟨e,he,?_⟩
   simp only[aMp,AM,CJ,or_false] at hx
   rcases hx with rfl|rfl
   ·exact .inl rfl
   ·exact .inr rfl
  have hno:∀e∈f,e.c0≠t.c0:=fun e he hq=>h.1 (AT.2 ⟨e,he,hq⟩)
  unfold aMa at ih hm⊢
  rw[A6,AV,B5]
  refine⟨by simp[aMp];omega,ih,?_⟩
  intro x hx y hy e
  subst e
  obtain⟨z,hz,hzx⟩:=AT.1 hy
  obtain⟨e,he,h1⟩:=hm z hz
  have:=hno e he
  simp only[aMp,A0,DY,AM,CJ,or_false] at hx
  omega
namespace aIc
variable {a f r:List T5}
theorem edge (A:aIc a f r) {k:Nat} (h:k<r.length):∃e∈f,at5 r k=⟨2*e.c0,e.c1,e.c2,(at5 a e.c1.toNat).c1,0⟩∨at5 r k=⟨2*e.c0+1,e.c2,e.c1,(at5 a e.c1.toNat).c1,0⟩:=by
 obtain⟨e,he,hx⟩:=CF.1 (A.perm.mem_iff.1 (bAb h))
 refine⟨e,he,?_⟩
 simpa only[aMp,AM,CJ,or_false] using hx
theorem arc (A:aIc a f r) {e t:T5} (he:e∈f) (ht:t∈aMp a e):∃k,k<r.length∧at5 r k=t:=aSp (A.perm.mem_iff.2 (CF.2 ⟨e,he,ht⟩))
theorem num (A:aIc a f r) {i j:Nat} (hi:i<r.length) (hj:j<r.length) (h:(at5 r i).c0=(at5 r j).c0):i=j:=by
 have hn:(r.map (·.c0)).Nodup:=(A.perm.map _).nodup_iff.2 (aKx A.nd a)
 have h1:=aBs hi
 have h2:=aBs hj
 rw[AK] at h1 h2
 obtain⟨_,h1⟩:=h1
 obtain⟨_,h2⟩:=h2
 refine(List.getElem_inj (h₀:=by simpa using hi) (h₁:=by simpa using hj) hn).1 ?_
 rw[List.getElem_map,List.getElem_map,h1,h2,h]
theorem bro (A:aIc a f r) {k:Nat} (h:k<r.length):(at5 r (aBi r k))=⟨aFm (at5 r k).c0,(at5 r k).c2,(at5 r k).c1,(at5 r k).c3,0⟩:=by
 obtain⟨e,he,hk⟩:=A.edge h
 have he0:=A.pos e he
 have htd:∀x:Int,0≤x→x.tdiv 2=x/2:=fun x hx=>CL hx
 have hpos:∀{j:Nat},j<r.length→0≤(at5 r j).c0:=by
  intro j hj
  obtain⟨e',he',hj'⟩:=A.edge hj
  have:=A.pos e' he'
  rcases hj' with hj'|hj'<;>rw[hj']<;>dsimp only<;>omega
 obtain⟨j,hj,hjt⟩:∃j,j<r.length∧at5 r j=⟨aFm (at5 r k).c0,(at5 r k).c2,(at5 r k).c1,(at5 r k).c3,0⟩:=by
  rcases hk with hk|hk
  ·obtain⟨j,hj,hjt⟩:=A.arc he (t:=⟨2*e.c0+1,e.c2,e.c1,(at5 a e.c1.toNat).c1,0⟩) (by simp[aMp])
   refine⟨j,hj,?_⟩
   have:aFm (2*e.c0)=2*e.c0+1:=by unfold aFm;rw[if_pos (by omega)]
   rw[hjt,hk];dsimp only;rw[this]
  ·obtain⟨j,hj,hjt⟩:=A.arc he (t:=⟨2*e.c0,e.c1,e.c2,(at5 a e.c1.toNat).c1,0⟩) (by simp[aMp])
   refine⟨j,hj,?_⟩
   have:aFm (2*e.c0+1)=2*e.c0:=by unfold aFm;rw[if_neg (by omega)];omega
   rw[hjt,hk];dsimp only;rw[this]
 have hfl:(at5 r j).c0=aFm (at5 r k).c0:=by rw[hjt]
 have hk0:=hpos h
 have hj0:=hpos hj
 have hne:j≠k:=by rintro rfl;unfold aFm at hfl;split at hfl<;>omega
 have hdiv:(at5 r j).c0.tdiv 2=(at5 r k).c0.tdiv 2:=by
  rw[htd _ hk0,htd _ hj0,hfl];unfold aFm;split<;>omega
 have huniq:∀i,i<r.length→i≠k→(at5 r i).c0.tdiv 2=(at5 r k).c0.tdiv 2→i=j:=by
  intro i hi hik hd
  rw[htd _ hk0,htd _ (hpos hi)] at hd
  refine A.num hi hj ?_
  have hn:(at5 r i).c0≠(at5 r k).c0:=fun hq=>hik (A.num hi h hq)
  rw[hfl];unfold aFm;split<;>omega
 have hb:aBi r k=j:=by
  unfold aBi
  cases hf:(BE r.length).find? fun i=>decide (i≠k∧(at5 r i).c0.tdiv 2=(at5 r k).c0.tdiv 2) with
  |none=>
   rw[D6] at hf
   exact(hf j (BF.2 hj) (decide_eq_true ⟨hne,hdiv⟩)).elim
  |some q=>
   have h1:=List.find?_some hf
   have h2:=BF.1 (DE hf)
   have h3:=of_decide_eq_true h1
   exact huniq q h2 h3.1 h3.2
 rw[hb,hjt]
theorem bro_inj (A:aIc a f r) {x y:Nat} (hx:x<r.length) (hy:y<r.length) (h:aBi r x=aBi r y):x=y:=by
 have h1:=A.bro hx
 have h2:=A.bro hy
 rw[h,h2] at h1
 have h3:=congrArg T5.c0 h1
 dsimp only at h3
 refine A.num hx hy ?_
 unfold aFm at h3
 split at h3<;>split at h3<;>omega
end aIc
def aDj (r:List T5) (k:Nat):Nat:=aCj r (aBi r k)
theorem aBj {r:List T5} (k:Nat) (h:k<r.length):aDj r k<r.length:=bBy (aCk h)
theorem aIc.sig_inj {a f r:List T5} (A:aIc a f r) (x y:Nat) (hx:x<r.length) (hy:y<r.length) (h:aDj r x=aDj r y):x=y:=A.bro_inj hx hy (aYc A.sa (aCk hx) (aCk hy) h)
theorem aIc.sig_from {a f r:List T5} (A:aIc a f r) {k:Nat} (h:k<r.length):(at5 r (aDj r k)).c1=(at5 r k).c2:=by
 unfold aDj;rw[aIu,A.bro h]
def aHs (r:List T5) (i:Nat):Nat:=perF (aDj r) r.length i
def aFd (r:List T5) (i n:Nat):T5:={at5 r (itF (aDj r) n i) with c4:=(n:Int)}
def aMq (r:List T5) (i:Nat):List T5:=(BE (aHs r i)).map (aFd r i)
def aFn (r:List T5) (i:Nat):Bool:=decide ((at5 r i).c1=(at5 r i).c3∧(0<i→(at5 r (i-1)).c1≠(at5 r i).c1))
def aCw (r:List T5) (n:Nat):List T5:=(BE n).flatMap fun i=>if aFn r i then aMq r i else[]
def aGf (r:List T5):List T5:=aCw r r.length
theorem aGg (r:List T5) (n:Nat):aCw r (n+1)=aCw r n++if aFn r n then aMq r n else[]:=by
 unfold aCw;rw[DZ,B9];simp
theorem aIc.per {a f r:List T5} (A:aIc a f r) {i:Nat} (h:i<r.length):0<aHs r i∧aHs r i≤r.length∧itF (aDj r) (aHs r i) i=i∧∀n,0<n→n<aHs r i→itF (aDj r) n i≠i:=bGk (aYb aBj A.sig_inj h)
theorem aOy (r:List T5) (i:Nat):(aMq r i).length=aHs r i:=by unfold aMq;simp
theorem aIc.to_len {a f r:List T5} (A:aIc a f r):∀{n:Nat},n≤r.length→(aCw r n).length≤n*r.length
 |0,_=>by simp[aCw]
 |n+1,h=>by
  have ih:=A.to_len (n:=n) (by omega)
  have hp:=(A.per (i:=n) (by omega)).2.1
  rw[aGg,AF,BD]
  split
  ·rw[aOy];omega
  ·simp only[List.length_nil];omega
def aPt (r:List T5) (n:Nat):List Nat:=(BE n).flatMap fun i=>if aFn r i then(BE (aHs r i)).map fun k=>itF (aDj r) k i else[]
theorem aMc (r:List T5) (n:Nat):aPt r (n+1)=aPt r n++if aFn r n then(BE (aHs r n)).map (fun k=>itF (aDj r) k n) else[]:=by
 unfold aPt;rw[DZ,B9];simp
theorem aVp (r:List T5):∀n,(aPt r n).length=(aCw r n).length
 |0=>rfl
 |n+1=>by
  rw[aMc,aGg,AF,AF,aVp r n]
  split
  ·rw[aOy];simp
  ·rfl
theorem aOz {r:List T5} {n x:Nat} (h:x∈aPt r n):∃i,i<n∧aFn r i=true∧∃k,k<aHs r i∧x=itF (aDj r) k i:=by
 obtain⟨i,hi,hx⟩:=CF.1 h
 split at hx
 next hr=>
  obtain⟨k,hk,rfl⟩:=AT.1 hx
  exact⟨i,BF.1 hi,hr,k,BF.1 hk,rfl⟩
 next=>simp at hx
namespace aIc
variable {a f r:List T5}
theorem lab (A:aIc a f r) (hl:∀e∈f,(at5 a e.c1.toNat).c1=(at5 a e.c2.toNat).c1) {k:Nat} (h:k<r.length):(at5 r k).c3=(at5 a (at5 r k).c1.toNat).c1:=by
 obtain⟨e,he,hk|hk⟩:=A.edge h
 ·rw[hk]
 ·rw[hk];exact hl e he
theorem sig_lab (A:aIc a f r) (hl:∀e∈f,(at5 a e.c1.toNat).c1=(at5 a e.c2.toNat).c1) {k:Nat} (h:k<r.length):(at5 r (aDj r k)).c3=(at5 r k).c3:=by
 have h1:=A.lab hl (aBj k h)
 have h2:=A.lab hl (aCk h)
 rw[A.bro h] at h2
 dsimp only at h2
 rw[h1,A.sig_from h,h2]
theorem it_lab (A:aIc a f r) (hl:∀e∈f,(at5 a e.c1.toNat).c1=(at5 a e.c2.toNat).c1) {i:Nat} (h:i<r.length):∀k,(at5 r (itF (aDj r) k i)).c3=(at5 r i).c3
 |0=>rfl
 |k+1=>by
  show(at5 r (aDj r (itF (aDj r) k i))).c3=_
  rw[A.sig_lab hl (aBy aBj h k),A.it_lab hl h k]
theorem root_uniq (A:aIc a f r) {i j:Nat} (hij:i<j) (hj:j<r.length) (hri:aFn r i=true) (hrj:aFn r j=true):(at5 r i).c3≠(at5 r j).c3:=by
 intro h
 unfold aFn at hri hrj
 obtain⟨i1,_⟩:=of_decide_eq_true hri
 obtain⟨j1,j2⟩:=of_decide_eq_true hrj
 have e1:=aVo A.sa (show i≤j-1 by omega) (by omega)
 have e2:=aVo A.sa (show j-1≤j by omega) hj
 exact j2 (by omega) (by omega)
theorem idx_nodup (A:aIc a f r) (hl:∀e∈f,(at5 a e.c1.toNat).c1=(at5 a e.c2.toNat).c1):∀{n:Nat},n≤r.length→(aPt r n).Nodup
 |0,_=>by simp[aPt]
 |n+1,h=>by
  rw[aMc,B5]
  obtain⟨P0,P1,P2,P3⟩:=A.per (i:=n) (by omega)
  refine⟨A.idx_nodup hl (by omega),?_,?_⟩
  ·split
   ·by_cases hn:((BE (aHs r n)).map fun k=>itF (aDj r) k n).Nodup
    ·exact hn
    ·obtain⟨x,y,h1,h2,h3⟩:=aFf hn
     rw[show y=x+(y-x) by omega,aIt] at h3
     have:=aSo (f:=aDj r) aBj A.sig_inj (show n<r.length by omega) (aBy aBj (by omega) _) x h3
     exact(P3 (y-x) (by omega) (by omega) this.symm).elim
   ·simp
  ·intro x hx y hy hxy
   subst hxy
   split at hy
   next hr=>
    obtain⟨k,_,hk⟩:=AT.1 hy
    obtain⟨i,hi,hri,k2,_,hk2⟩:=aOz hx
    refine A.root_uniq hi (by omega) hri hr ?_
    rw[←A.it_lab hl (show i<r.length by omega) k2,←hk2,←hk,A.it_lab hl (by omega) k]
   next=>simp at hy
theorem tours_len (A:aIc a f r) (hl:∀e∈f,(at5 a e.c1.toNat).c1=(at5 a e.c2.toNat).c1):(aGf r).length≤r.length:=by
 unfold aGf
 rw[←aVp]
 have:=(A.idx_nodup hl (AG _)).length_le_of_subset (l₂:=BE r.length) (by
  intro x hx
  obtain⟨i,hi,_,k,_,rfl⟩:=aOz hx
  exact BF.2 (aBy aBj hi k))
 simpa using this
end aIc
theorem aYd {r:List T5} {k i:Nat} (hi:i<r.length) (hno:∀j,j<i→¬(j≠k∧(at5 r j).c0.tdiv 2=(at5 r k).c0.tdiv 2)) (h:i≠k∧(at5 r i).c0.tdiv 2=(at5 r k).c0.tdiv 2):aBi r k=i:=by
 unfold aBi
 have:(BE r.length).find? (fun i=>decide (i≠k∧(at5 r i).c0.tdiv 2=(at5 r k).c0.tdiv 2))=some i:=by
  rw[List.find?_range_eq_some]
  refine⟨decide_eq_true h,BF.2 hi,fun j hj=> ?_⟩
  have h2:=hno j hj
  rw[Bool.not_eq_true']
  exact decide_eq_false h2
 rw[this];rfl
theorem aYe {r:List T5} {k:Nat} (hno:∀j,j<r.length→¬(j≠k∧(at5 r j).c0.tdiv 2=(at5 r k).c0.tdiv 2)):aBi r k=k:=by
 unfold aBi
 have:(BE r.length).find? (fun i=>decide (i≠k∧(at5 r i).c0.tdiv 2=(at5 r k).c0.tdiv 2))=none:=by
  rw[D6]
  intro j hj hd
  exact hno j (BF.1 hj) (of_decide_eq_true hd)
 rw[this];rfl
theorem aYf (p:Option Addr) (m cap:Nat) (r:List T5) (c:aAc) (hv:RV p m r c) (hm:m≤1000000) (hc:∀t∈r,0≤t.c0∧t.c0≤4398046511104) (k:Nat) (hk:k<m):
  CtQ AC 71 [.slice p m cap,.int .i64 (k:Int)] [c] (.int .i64 (aBi r k:Int)):=by
 have hl:=hv.1
 obtain⟨b,off,cs,T,fz,rfl,rfl,_,hget⟩:=(RV.rw hv).pos aAr (by omega)
 have hg:∀j,j<m→cs[off+j*5]? =some (.int .i64 (at5 r j).c0):=fun j hj=>by have:=hget j 0 _ _ (aBs (by omega)) rfl;rwa[B6] at this
 have hd:∀j,j<m→AH .i64 ((at5 r j).c0.tdiv 2)=(at5 r j).c0.tdiv 2:=fun j hj=>by
  have:=hc _ (bAb (r:=r) (k:=j) (by omega))
  have e:=CL (b:=2) this.1
  rw[e];exact aAd (by omega)
 have q0:=hg k hk
 have d0:=hd k hk
 refine Ct.intro Tryz.func71 rfl Tryz.ntmps71 (nle rfl) fun w0=> ?_;dsimp only[aAa,AD]
 repeat(first|(refine st ?_;intros)|refine G.draw [] (h:= ?_))
 refine G.loop (X:=Nat) (fun i=>i≤m∧∀j,j<i→¬(j≠k∧(at5 r j).c0.tdiv 2=(at5 r k).c0.tdiv 2)) (fun i=>[(5,.int .i64 (i:Int)),(1,.int .i64 (k:Int)),(0,.slice (some ⟨b,off,none⟩) m cap)])
  (fun _=>[[(b,aCa cs T fz)]]) (fun i=>m-i) 0 ⟨AS _,fun j hj=>absurd hj (Nat.not_lt_zero j)⟩ (body:= ?_)
 rintro i ⟨hi,hno⟩
 by_cases hlt:i<m
 ·have q1:=hg i hlt
  have d1:=hd i hlt
  by_cases hik:i=k
  ·subst hik
   repeat(first|(refine st ?_;intros)|refine G.draw [] (h:= ?_))
   refine Dn.round (i+1) ⟨hlt,fun j hj h=> ?_⟩ (by omega)
   by_cases hji:j=i
   ·exact h.1 hji
   ·exact hno j (by omega) h
  ·by_cases hq:(at5 r i).c0.tdiv 2=(at5 r k).c0.tdiv 2
   ·have hb:=aYd (by omega) hno ⟨hik,hq⟩
    repeat(first|(refine st ?_;intros)|refine G.draw [] (h:= ?_))
    (refine Dn.post (Hr:=[[(b,aCa cs T fz)]]) Tryz.results71 (hR:= ?_);exact⟨congrArg (Value.int .i64) (by omega),rfl⟩)
   ·repeat(first|(refine st ?_;intros)|refine G.draw [] (h:= ?_))
    refine Dn.round (i+1) ⟨hlt,fun j hj h=> ?_⟩ (by omega)
    by_cases hji:j=i
    ·subst hji;exact hq h.2
    ·exact hno j (by omega) h
 ·obtain rfl:i=m:=by omega
  have hb:=aYe (r:=r) (k:=k) (fun j hj=>hno j (by omega))
  repeat(first|(refine st ?_;intros)|refine G.draw [] (h:= ?_))
  (refine Dn.post (Hr:=[[(b,aCa cs T fz)]]) Tryz.results71 (hR:= ?_);exact⟨congrArg (Value.int .i64) (by omega),rfl⟩)
structure ToX where
 i:Nat
 n:Nat
 p:Option Addr
 cap:Nat
 ch:aAc
structure TuX where
 k:Nat
 n:Nat
 p:Option Addr
 cap:Nat
 ch:aAc
theorem aIc.c0le {a f r:List T5} (A:aIc a f r) {M:Int} (hf:∀t∈f,t.c0≤M):∀t∈r,0≤t.c0∧t.c0≤2*M+1:=by
 intro t ht
 obtain⟨k,hk,rfl⟩:=aSp ht
 obtain⟨e,he,h⟩:=A.edge hk
 have h1:=hf e he
 have h2:=A.pos e he
 rcases h with h|h<;>rw[h]<;>dsimp only<;>omega
theorem bGm (pa:Option Addr) (na ka:Nat) (a:List T5) (ca:aAc) (hva:RV pa na a ca) (pf:Option Addr) (nf kf:Nat) (f:List T5) (cf:aAc) (hvf:RV pf nf f cf) (hn:nf≤1000) (hna:na≤1000000)
  (hf:∀t∈f,0≤t.c0∧t.c0≤1099511627776∧0≤t.c1∧t.c1<na) (hnd:(f.map (·.c0)).Nodup):
  Ct AC 30 [.slice pa na ka,.slice pf nf kf] [ca,cf] fun v H'=>∃p n cap c r,v= .slice p n cap∧H'=[ca,cf,c]∧n=(aGf r).length∧Vec 49 5 p n cap (flat (aGf r)) c∧aIc a f r∧r.length=2*nf:=by
 have htv:∀t:T5,tv t= .agg #[.int .i64 t.c0,.int .i64 t.c1,.int .i64 t.c2,.int .i64 t.c3,.int .i64 t.c4]:=fun _=>rfl
 have hA:=bJq pa na ka a ca hva pf nf kf f cf hvf (by omega) hna hf
 refine Ct.intro Tryz.func30 rfl Tryz.ntmps30 (nle rfl) fun w0=> ?_;dsimp only[aAa,AD]
 repeat(first|(refine st ?_;intros)|refine G.draw [] (h:= ?_)|(refine cq hBr ?_)|(refine cq hBe ?_))
 refine R.call (hct:=hA) (h:= ?_)
 rintro _ _ ⟨q,qcap,qc,r,rfl,rfl,hQ,hp,hs⟩
 try dsimp only[AA,AB]
 have A:aIc a f r:=⟨hp,hs,hnd,fun t ht=>(hf t ht).1⟩
 have hrv:RV q (2*nf) r qc:=RV.vec hQ
 have hrl:r.length=2*nf:=hrv.1
 have hc0:=A.c0le (M:=1099511627776) (fun t ht=>(hf t ht).2.1)
 clear hQ
 repeat(first|(refine st ?_;intros)|refine G.draw [] (h:= ?_)|(refine cq hBr ?_)|(refine cq hBe ?_))
 refine G.loop (X:=ToX) (fun x=>x.i≤2*nf∧x.n=(aCw r x.i).length∧Vec 49 5 x.p x.n x.cap (flat (aCw r x.i)) x.ch)
  (fun x=>[(7,.int .i64 (x.i:Int)),(6,.slice x.p x.n x.cap),(5,.slice q (2*nf) qcap)])
  (fun x=>[ca,cf,qc,x.ch]) (fun x=>2*nf-x.i) ⟨0,0,none,0,[]⟩ ⟨AS _,rfl,Vec.nil _ _⟩ (by repeat(first|exact trivial|refine⟨rfl,?_⟩)) (by repeat(first|exact aAo.nil|(apply aAo.cons;·(first|exact aAn.nil|(repeat(first|exact aAn.here|apply aAn.there)))))) ?_
 rintro⟨i,n,p,cap,ch⟩ ⟨hi,hni,hV⟩
 dsimp only at hi hni hV⊢
 by_cases hlt:i<2*nf
 rotate_left
 ·obtain rfl:i=2*nf:=by omega
  have hall:aCw r (2*nf)=aGf r:=by unfold aGf;rw[hrl]
  rw[hall] at hV hni
  repeat(first|(refine st ?_;intros)|refine G.draw [] (h:= ?_)|(refine cq hBr ?_)|(refine cq hBe ?_))
  (refine Dn.post (Hr:=[ca,cf,ch]) Tryz.results30 (hR:= ?_);exact⟨p,n,cap,ch,r,rfl,rfl,hni,hV,A,hrl⟩)
 obtain⟨b,off,cs,T,fz,rfl,rfl,hcut,hget⟩:=(RV.rw hrv).pos aAr (by omega)
 have hg:∀j k v,j<2*nf→(aAl (at5 r j))[k]? =some v→cs[off+j*5+k]? =some v:=fun j k v hj hv=>hget j k _ _ (aBs (by omega)) hv
 have q1:=hg i 1 _ hlt rfl
 have q3:=hg i 3 _ hlt rfl
 have hto:=aGg r i
 have hlenT:=A.to_len (n:=i) (by omega)
 have hnb:n≤4000000:=by
  have h1:i*r.length≤2000*2000:=Nat.mul_le_mul (by omega) (by omega)
  omega
 by_cases hroot:aFn r i=true
 ·rw[if_pos hroot] at hto
  have hr:=hroot
  unfold aFn at hr
  obtain⟨hr1,hr2⟩:=of_decide_eq_true hr
  have hq:i=0∨(0<i∧cs[off+(i-1)*5+1]? =some (.int .i64 (at5 r (i-1)).c1)∧(at5 r (i-1)).c1≠(at5 r i).c1):=by
   rcases Nat.eq_zero_or_pos i with hz|hz
   ·exact .inl hz
   ·exact .inr ⟨hz,hg (i-1) 1 _ (by omega) rfl,hr2 hz⟩
  obtain⟨P0,P1,P2,P3⟩:=A.per (i:=i) (by omega)
  have hPd:aHs r i=(aMq r i).length:=(aOy r i).symm
  have hBr:∀k,k<2*nf→CtQ AC 71 [.slice (some ⟨b,off,none⟩) (2*nf) qcap,.int .i64 (k:Int)] [[(b,aCa cs T fz)]] (.int .i64 (aBi r k:Int)):=fun k hk=>aYf _ _ _ r _ hrv (by omega) (fun t ht=>by have:=hc0 t ht;omega) k hk
  have hBe:∀k,k<2*nf→CtQ AC 70 [.slice (some ⟨b,off,none⟩) (2*nf) qcap,.int .i64 (k:Int)] [[(b,aCa cs T fz)]] (.int .i64 (aCj r k:Int)):=fun k hk=>bBz _ _ _ r _ hrv (by omega) k hk
  have hbl:∀k,k<2*nf→aBi r k<2*nf:=fun k hk=>by have:=aCk (r:=r) (k:=k) (by omega);omega
  have hsl:∀k,itF (aDj r) k i<2*nf:=fun k=>by have:=aBy (f:=aDj r) (m:=r.length) aBj (i:=i) (by omega) k;omega
  have ei:((i:Int)-1).toNat=i-1:=by omega
  obtain hz|⟨hz,q1',hr3⟩:=hq
  all_goals
   repeat(first|(refine st ?_;intros)|refine G.draw [] (h:= ?_)|(refine cq hBr ?_)|(refine cq hBe ?_))
   refine G.loop (X:=TuX) (fun x=>x.k≤aHs r i∧x.n=n+x.k∧Vec 49 5 x.p x.n x.cap (flat (aCw r i++(BE x.k).map (aFd r i))) x.ch)
    (fun x=>[(9,.int .i64 (x.k:Int)),(8,.int .i64 (itF (aDj r) x.k i:Int)),(7,.int .i64 (i:Int)),(6,.slice x.p x.n x.cap),(5,.slice (some ⟨b,off,none⟩) (2*nf) qcap)])
    (fun x=>[ca,cf,[(b,aCa cs T fz)],x.ch]) (fun x=>aHs r i-x.k) ⟨0,n,p,cap,ch⟩ ⟨AS _,rfl,by simpa using hV⟩ (body:= ?_)
   rintro⟨k,m,p2,cap2,ch2⟩ ⟨hk,hm,hV2⟩
   dsimp only at hk hm hV2⊢
   by_cases hkP:k<aHs r i
   ·have hq2:k=0∨(0<k∧itF (aDj r) k i≠i):=by
     rcases Nat.eq_zero_or_pos k with h|h
     ·exact .inl h
     ·exact .inr ⟨h,P3 k h hkP⟩
    have hs1:=hsl k
    have hs2:=hbl _ hs1
    have c5:(cs.drop (off+itF (aDj r) k i*5)).take 5=[.int .i64 (at5 r (itF (aDj r) k i)).c0,.int .i64 (at5 r (itF (aDj r) k i)).c1,.int .i64 (at5 r (itF (aDj r) k i)).c2,.int .i64 (at5 r (itF (aDj r) k i)).c3,.int .i64 (at5 r (itF (aDj r) k i)).c4]:=hcut _ _ (aBs (by omega))
    have hmx:m+1≤maxLen:=by simp only[maxLen];omega
    have hsn:flat (aCw r i++(BE (k+1)).map (aFd r i))=flat (aCw r i++(BE k).map (aFd r i))++[.int .i64 (at5 r (itF (aDj r) k i)).c0,.int .i64 (at5 r (itF (aDj r) k i)).c1,.int .i64 (at5 r (itF (aDj r) k i)).c2,.int .i64 (at5 r (itF (aDj r) k i)).c3,.int .i64 (k:Int)]:=by
     rw[DZ,AV,←AR,flat_append];rfl
    obtain hk0|⟨hk0,hne⟩:=hq2
    all_goals
     repeat(first|(refine st ?_;intros)|refine G.draw [] (h:= ?_)|(refine cq hBr ?_)|(refine cq hBe ?_))
     rename_i p' cap' c' hV'
     have hV3:Vec 49 5 p' (m+1) cap' (flat (aCw r i++(BE (k+1)).map (aFd r i))) c':=by rw[hsn];exact hV'
     refine Dn.round ⟨k+1,m+1,p',cap',c'⟩ ⟨hkP,by dsimp only;omega,hV3⟩ (by dsimp only;omega)
   ·obtain rfl:k=aHs r i:=by omega
    have hk0:aHs r i≠0:=by omega
    subst hm
    repeat(first|(refine st ?_;intros)|refine G.draw [] (h:= ?_)|(refine cq hBr ?_)|(refine cq hBe ?_))
    refine Dn.round ⟨i+1,n+aHs r i,p2,cap2,ch2⟩ ⟨hlt,by dsimp only;rw[hto,AF,←hPd,←hni],?_⟩ (by dsimp only;omega)
    dsimp only
    rw[hto]
    exact hV2
 ·rw[if_neg hroot,AQ] at hto
  have hr:¬((at5 r i).c1=(at5 r i).c3∧(0<i→(at5 r (i-1)).c1≠(at5 r i).c1)):=fun h=>hroot (by unfold aFn;exact decide_eq_true h)
  have hq:(at5 r i).c1≠(at5 r i).c3∨((at5 r i).c1=(at5 r i).c3∧0<i∧cs[off+(i-1)*5+1]? =some (.int .i64 (at5 r (i-1)).c1)∧(at5 r (i-1)).c1=(at5 r i).c1):=by
   by_cases h1:(at5 r i).c1=(at5 r i).c3
   ·refine .inr ⟨h1,?_⟩
    rcases Nat.eq_zero_or_pos i with hz|hz
    ·exact(hr ⟨h1,fun h=>by omega⟩).elim
    ·refine⟨hz,hg (i-1) 1 _ (by omega) rfl,?_⟩
     by_cases h2:(at5 r (i-1)).c1=(at5 r i).c1
     ·exact h2
     ·exact(hr ⟨h1,fun _=>h2⟩).elim
   ·exact .inl h1
  have ei:((i:Int)-1).toNat=i-1:=by omega
  obtain hz|⟨h0,hz,q1',hr3⟩:=hq
  all_goals
   repeat(first|(refine st ?_;intros)|refine G.draw [] (h:= ?_)|(refine cq hBr ?_)|(refine cq hBe ?_))
   refine Dn.round ⟨i+1,n,p,cap,ch⟩ ⟨hlt,by dsimp only;rw[hto,hni],by dsimp only;rw[hto];exact hV⟩ (by dsimp only;omega)
end Go.Proofs.YtammjnjpheobaaaGreat
namespace Go.Gr
variable {g:Nat→Ed} {S S':Nat→Prop}
def Mn (g:Nat→Ed) (S:Nat→Prop) (v:Nat):Prop:=∀u,u<v→¬Cn g S u v
theorem aSq {p:Nat→Prop}:∀{n:Nat},p n→∃m,m≤n∧p m∧∀k,k<m→¬p k:=by
 intro n
 induction n using Nat.strongRecOn with
 |ind n ih=>
  intro h
  by_cases hx:∃k,k<n∧p k
  ·obtain⟨k,hk,hpk⟩:=hx
   obtain⟨m,hm,h1,h2⟩:=ih k hk hpk
   exact⟨m,by omega,h1,h2⟩
  ·exact⟨n,Nat.le_refl _,h,fun k hk hp=>hx ⟨k,hk,hp⟩⟩
theorem Mn.of (g:Nat→Ed) (S:Nat→Prop) (x:Nat):∃m,m≤x∧Cn g S m x∧Mn g S m:=by
 obtain⟨m,h1,h2,h3⟩:=aSq (p:=fun u=>Cn g S u x) (n:=x) (.refl x)
 exact⟨m,h1,h2,fun u hu hc=>h3 u hu (hc.trans h2)⟩
theorem Mn.uniq {a b:Nat} (ha:Mn g S a) (hb:Mn g S b) (h:Cn g S a b):a=b:=by
 rcases Nat.lt_trichotomy a b with h1|h1|h1
 ·exact(hb a h1 h).elim
 ·exact h1
 ·exact(ha b h1 h.symm).elim
theorem Mn.le {a b:Nat} (ha:Mn g S a) (h:Cn g S a b):a≤b:=by
 rcases Nat.lt_or_ge b a with h1|h1
 ·exact(ha b h1 h.symm).elim
 ·exact h1
theorem bCa {p q:Nat→Bool} {c:Nat}:∀{n:Nat},(∀v,v<n→(q v=true↔p v=true∧v≠c))→p c=true→c<n→((List.range n).filter q).length+1=((List.range n).filter p).length:=by
 have same:∀{n:Nat},(∀v,v<n→(q v=true↔p v=true∧v≠c))→n≤c→((List.range n).filter q).length=((List.range n).filter p).length:=by
  intro n h hn
  congr 1
  refine List.filter_congr fun v hv=> ?_
  have h1:=List.mem_range.1 hv
  have h2:=h v h1
  rw[Bool.eq_iff_iff,h2]
  exact⟨fun h=>h.1,fun h=>⟨h,by omega⟩⟩
 intro n
 induction n with
 |zero=>intro _ _ h;omega
 |succ n ih=>
  intro h hc hn
  rw[List.range_succ,List.filter_append,List.filter_append,List.length_append,List.length_append]
  by_cases hcn:c=n
  ·subst hcn
   have h1:=same (n:=c) (fun v hv=>h v (by omega)) (Nat.le_refl _)
   have h2:q c=false:=by
    cases hq:q c with
    |false=>rfl
    |true=>exact((h c (by omega)).1 hq).2.elim rfl
   simp[h1,h2,hc]
  ·have h1:=ih (fun v hv=>h v (by omega)) hc (by omega)
   have h2:q n=p n:=by
    rw[Bool.eq_iff_iff,h n (by omega)]
    exact⟨fun h=>h.1,fun h=>⟨h,fun e=>hcn e.symm⟩⟩
   have h3:(List.filter q [n]).length=(List.filter p [n]).length:=by simp[List.filter_cons,h2]
   omega
theorem aIv {n:Nat} (mb:Nat→Nat→Bool) (kb:Nat→Bool) (hm:∀k v,mb k v=true↔Mn g (fun j=>j<k) v) (hk:∀i,kb i=true↔¬Cn g (fun j=>j<i) (g i).1 (g i).2):
  ∀m,(∀j,j<m→(g j).1<n∧(g j).2<n)→((List.range n).filter (mb m)).length+((List.range m).filter kb).length=n
 |0,_=>by
  have:(List.range n).filter (mb 0)=List.range n:=by
   rw[List.filter_eq_self]
   intro v _
   rw[hm]
   intro u hu hc
   have:u=v:=hc.stay (X:=fun y=>u=y) rfl (fun j hj=>absurd hj (Nat.not_lt_zero j))
   omega
  rw[this];simp
 |m+1,hg=>by
  have ih:=aIv mb kb hm hk m (fun j hj=>hg j (by omega))
  rw[List.range_succ,List.filter_append,List.length_append]
  have hmono:∀{a b},Cn g (fun j=>j<m) a b→Cn g (fun j=>j<m+1) a b:=fun h=>h.mono fun i hi=>Nat.lt_succ_of_lt hi
  have hadd:∀{a b},Cn g (fun j=>j<m+1) a b→Cn g (fun j=>j<m∨j=m) a b:=fun h=>h.mono fun i hi=>by
   rcases Nat.lt_or_ge i m with h|h
   ·exact .inl h
   ·exact .inr (by omega)
  by_cases hc:Cn g (fun j=>j<m) (g m).1 (g m).2
  ·have hkm:kb m=false:=by
    cases h:kb m with
    |false=>rfl
    |true=>exact((hk m).1 h hc).elim
   have hsame:(List.range n).filter (mb (m+1))=(List.range n).filter (mb m):=by
    refine List.filter_congr fun v _=> ?_
    rw[Bool.eq_iff_iff,hm,hm]
    refine⟨fun h u hu hx=>h u hu (hmono hx),fun h u hu hx=> ?_⟩
    refine h u hu ((hadd hx).sub fun i hi=> ?_)
    rcases hi with hi|rfl
    ·exact Cn.edge hi
    ·exact hc
   rw[hsame];simp[hkm];omega
  ·have hkm:kb m=true:=(hk m).2 hc
   obtain⟨a,a1,a2,a3⟩:=Mn.of g (fun j=>j<m) (g m).1
   obtain⟨b,b1,b2,b3⟩:=Mn.of g (fun j=>j<m) (g m).2
   have hab:a≠b:=by rintro rfl;exact hc (a2.symm.trans b2)
   have hgm:=hg m (by omega)
   have hedge:Cn g (fun j=>j<m+1) a b:=((hmono a2).trans (Cn.edge (Nat.lt_succ_self m))).trans (hmono b2).symm
   have hiff:∀v,Mn g (fun j=>j<m+1) v↔Mn g (fun j=>j<m) v∧v≠max a b:=by
    intro v
    constructor
    ·intro h
     refine⟨fun u hu hx=>h u hu (hmono hx),?_⟩
     rintro rfl
     rcases Nat.lt_or_ge a b with h1|h1
     ·refine h a (by omega) ?_
      rw[Nat.max_eq_right (by omega)];exact hedge
     ·refine h b (by omega) ?_
      rw[Nat.max_eq_left (by omega)];exact hedge.symm
    ·rintro⟨h,hne⟩ u hu hx
     rcases(hadd hx).add with h1|⟨h1,h2⟩|⟨h1,h2⟩
     ·exact h u hu h1
     ·have e1:=Mn.uniq b3 h (b2.trans h2)
      have e2:=Mn.le a3 (a2.trans h1.symm)
      refine hne ?_
      subst e1
      omega
     ·have e1:=Mn.uniq a3 h (a2.trans h2)
      have e2:=Mn.le b3 (b2.trans h1.symm)
      refine hne ?_
      subst e1
      omega
   have h1:=bCa (p:=mb m) (q:=mb (m+1)) (c:=max a b) (n:=n) (fun v _=>by rw[hm,hm,hiff]) (by
    rw[hm]
    rcases Nat.lt_or_ge a b with h|h
    ·rw[Nat.max_eq_right (by omega)];exact b3
    ·rw[Nat.max_eq_left (by omega)];exact a3) (by omega)
   simp[hkm]
   omega
end Go.Gr
namespace Go.Proofs.YtammjnjpheobaaaGreat
open Go.SL Go.Tup
def edT (es:List IE):List T5:=(BE es.length).map fun (i:Nat)=>⟨(i:Int),(es.getD i (0,0)).1,(es.getD i (0,0)).2,0,0⟩
theorem aIw (es:List IE):(edT es).length=es.length:=by unfold edT;simp
theorem aGn {es:List IE} {i:Nat} {e:IE} (h:es[i]? =some e):(edT es)[i]? =some ⟨(i:Int),e.1,e.2,0,0⟩:=by
 have hi:=(AK.1 h).1
 unfold edT
 rw[BP,DT hi]
 simp only[Option.map_some,AN,h,Option.getD_some]
theorem bJr {es:List IE} {i:Nat} {e:IE} (h:es[i]? =some e):(edT es).take (i+1)=(edT es).take i++[⟨(i:Int),e.1,e.2,0,0⟩]:=by
 rw[BN,aGn h];rfl
theorem aMd {es:List IE} {t:T5} (h:t∈edT es):∃(i:Nat) (e:IE),es[i]? =some e∧t=⟨(i:Int),e.1,e.2,0,0⟩:=by
 obtain⟨i,hi⟩:=List.mem_iff_getElem?.1 h
 have hl:=(AK.1 hi).1
 rw[aIw] at hl
 have he:es[i]? =some es[i]:=AE hl
 rw[aGn he] at hi
 exact⟨i,es[i],he,(BG hi).symm⟩
theorem aMn (es:List IE):(edT es).Pairwise fun a b=>a.c0<b.c0:=by
 unfold edT
 rw[BX]
 exact(List.pairwise_lt_range).imp fun h=>by dsimp only;omega
open Go.Gr
theorem bJs {sl:List T5} {fl:List Bool} {e:T5} (h:e∈aCq sl fl):∃t∈sl,e=⟨t.c0,t.c1,t.c2,0,0⟩:=by
 unfold aCq at h
 obtain⟨⟨t,b⟩,hx,he⟩:=List.mem_filterMap.1 h
 refine⟨t,(List.of_mem_zip hx).1,?_⟩
 dsimp only at he
 split at he
 ·exact(BG he).symm
 ·simp at he
theorem aHt:∀(sl:List T5) (fl:List Bool),((aCq sl fl).map (·.c0)).Sublist (sl.map (·.c0))
 |[],_=>by simp[aCq]
 |t::sl,[]=>by simp[aCq]
 |t::sl,b::fl=>by
  have ih:=aHt sl fl
  unfold aCq at ih⊢
  cases b
  ·rw[List.zip_cons_cons,List.filterMap_cons]
   exact ih.cons _
  ·rw[List.zip_cons_cons,List.filterMap_cons]
   exact ih.cons_cons _
theorem bJt (sl:List T5) (fl:List Bool):(aCq sl fl).length≤sl.length:=by
 have:=(aHt sl fl).length_le
 simpa using this
theorem edT_ok {N:Nat} {es:List IE} (hf:∀e∈es,inE N e):aIr N (edT es):=by
 refine⟨fun t ht=> ?_,(aMn es).imp fun h=>by omega⟩
 obtain⟨i,e,he,rfl⟩:=aMd ht
 have:=hf e (AZ he)
 unfold inE at this
 unfold aIq
 dsimp only
 omega
theorem bCb {es:List IE} {sl:List T5} (hp:sl.Perm (edT es)) (hs:Sn sl):sl=edT es:=by
 refine List.Perm.eq_of_pairwise (le:=fun (a b:T5)=>a.c0≤b.c0) ?_ hs ((aMn es).imp fun h=>by omega) hp
 intro a b ha hb h1 h2
 obtain⟨i,e,he,rfl⟩:=aMd (hp.mem_iff.1 ha)
 obtain⟨j,e',he',rfl⟩:=aMd hb
 dsimp only at h1 h2
 obtain rfl:i=j:=by omega
 rw[he] at he'
 rw[BG he']
theorem bGn (es:List IE):(edT es).map eOf=es:=by
 refine CD fun i=> ?_
 rw[BP]
 cases h:es[i]? with
 |none=>rw[BC (by rw[aIw];exact List.getElem?_eq_none_iff.1 h)];rfl
 |some e=>rw[aGn h];rfl
structure aAm (N:Nat) (es:List IE) (lab:List Int) (fl:List Bool) (r b:List T5):Prop where
 labs:aKf (gE es) (fun i=>i<es.length) N (-1) lab
 fors:aJh es fl
 arcs:aIc (aHg lab) (aCq (edT es) fl) r
 len:r.length=2*(aCq (edT es) fl).length
 tours:b=aGf r
theorem aSn.parts {N:Nat} {es:List IE} {a f:List T5} (h:aSn N (edT es) a f):∃lab fl,a=aHg lab∧f=aCq (edT es) fl∧aKf (gE es) (fun i=>i<es.length) N (-1) lab∧aJh es fl:=by
 obtain⟨sl,fl,lab,h1,h2,h3,h4,rfl,rfl⟩:=h
 obtain rfl:=bCb h1 h2
 rw[bGn,aIw] at h3
 rw[bGn] at h4
 exact⟨lab,fl,rfl,rfl,h3,h4⟩
open Go.Spc Go.Srt
theorem aKf.root {g:Nat→Ed} {S:Nat→Prop} {N:Nat} {lab:List Int} (h:aKf g S N (-1) lab) {v:Nat} (hv:v<N):∃x:Nat,lab[v]? =some (x:Int)∧x≤v∧Cn g S v x∧Mn g S x:=by
 obtain⟨x,h1,h2,h3,h4⟩:=h.at_ v hv (by omega)
 exact⟨x,h1,h3,h2,fun u hu hc=>by have:=h4 u (h2.trans hc.symm);omega⟩
theorem aKf.same {g:Nat→Ed} {S:Nat→Prop} {N:Nat} {lab:List Int} (h:aKf g S N (-1) lab) {u v:Nat} (hu:u<N) (hv:v<N) (hc:Cn g S u v):lab[u]? =lab[v]? :=by
 obtain⟨x,x1,_,x2,x3⟩:=h.root hu
 obtain⟨y,y1,_,y2,y3⟩:=h.root hv
 rw[x1,y1,x3.uniq y3 (x2.symm.trans (hc.trans y2))]
theorem aKf.mem {g:Nat→Ed} {S:Nat→Prop} {N:Nat} {lab:List Int} (h:aKf g S N (-1) lab) {x:Int} (hx:x∈lab):∃v:Nat,x=(v:Int)∧v<N∧Mn g S v:=by
 obtain⟨i,hi,rfl⟩:=CC.1 hx
 obtain⟨v,h1,h2,_,h3⟩:=h.root (v:=i) (by rw[←h.len];exact hi)
 rw[AE hi] at h1
 have:=h.len
 exact⟨v,BG h1,by omega,h3⟩
theorem aIx {lab:List Int} {v:Nat} {x:Int} (h:lab[v]? =some x):(at5 (aHg lab) v).c1=x:=by
 obtain⟨hv,rfl⟩:=AK.1 h
 unfold at5 aHg
 rw[AN,BP,DT hv]
 simp[AN,hv]
namespace aAm
variable {N:Nat} {es:List IE} {lab:List Int} {fl:List Bool} {r b:List T5}
theorem edge (h:aAm N es lab fl r b) {e:T5} (he:e∈aCq (edT es) fl):∃(i:Nat) (d:IE),es[i]? =some d∧fl[i]? =some true∧e=⟨(i:Int),d.1,d.2,0,0⟩:=by
 unfold aCq at he
 obtain⟨⟨t,c⟩,hx,he⟩:=List.mem_filterMap.1 he
 dsimp only at he
 split at he
 next hc=>
  subst hc
  obtain⟨i,hi⟩:=List.mem_iff_getElem?.1 hx
  rw[List.getElem?_zip_eq_some] at hi
  have hil:=(AK.1 hi.1).1
  rw[aIw] at hil
  have hd:es[i]? =some es[i]:=AE hil
  have h1:=hi.1
  rw[aGn hd] at h1
  have h2:=BG h1
  subst h2
  exact⟨i,es[i],hd,hi.2,(BG he).symm⟩
 next=>simp at he
theorem hl (h:aAm N es lab fl r b) (hf:∀e∈es,inE N e):∀e∈aCq (edT es) fl,(at5 (aHg lab) e.c1.toNat).c1=(at5 (aHg lab) e.c2.toNat).c1:=by
 intro e he
 obtain⟨i,d,hd,_,rfl⟩:=h.edge he
 have h1:=hf d (AZ hd)
 unfold inE at h1
 have hg:gE es i=(d.1.toNat,d.2.toNat):=by unfold gE;rw[hd]
 have hc:Cn (gE es) (fun i=>i<es.length) d.1.toNat d.2.toNat:=by
  have:=Cn.edge (g:=gE es) (S:=fun i=>i<es.length) (i:=i) (AK.1 hd).1
  rwa[hg] at this
 have h2:=h.labs.same (u:=d.1.toNat) (v:=d.2.toNat) (by omega) (by omega) hc
 obtain⟨x,hx,_⟩:=h.labs.root (v:=d.1.toNat) (by omega)
 show(at5 (aHg lab) d.1.toNat).c1=(at5 (aHg lab) d.2.toNat).c1
 rw[aIx hx,aIx (h2▸hx)]
theorem tours_len (h:aAm N es lab fl r b) (hf:∀e∈es,inE N e):b.length≤2*(aCq (edT es) fl).length:=by
 rw[h.tours,←h.len]
 exact h.arcs.tours_len (h.hl hf)
theorem gE_lt (hf:∀e∈es,inE N e):∀j,j<es.length→(gE es j).1<N∧(gE es j).2<N:=by
 intro j hj
 have hd:es[j]? =some es[j]:=AE hj
 have h1:=hf _ (AZ hd)
 unfold inE at h1
 unfold gE;rw[hd];dsimp only
 omega
theorem for_le (h:aAm N es lab fl r b) (hf:∀e∈es,inE N e):(aCq (edT es) fl).length≤N:=by
 classical
 have hc:=aIv (g:=gE es) (n:=N) (fun k v=>decide (Mn (gE es) (fun j=>j<k) v)) (fun i=>decide (¬Cn (gE es) (fun j=>j<i) (gE es i).1 (gE es i).2)) (fun k v=>decide_eq_true_iff) (fun i=>decide_eq_true_iff) es.length (gE_lt hf)
 have h2:((aCq (edT es) fl).map fun t=>t.c0.toNat).length≤((BE es.length).filter fun i=>decide (¬Cn (gE es) (fun j=>j<i) (gE es i).1 (gE es i).2)).length:=by
  refine List.Nodup.length_le_of_subset ?_ ?_
  ·refine List.Pairwise.map _ (R:=fun (a b:T5)=>a.c0<b.c0∧0≤a.c0) (fun a b h=>by omega) ?_
   have hp:(aCq (edT es) fl).Pairwise fun a b=>a.c0<b.c0:=by
    have:=List.Pairwise.sublist (R:=fun x y:Int=>x<y) (aHt (edT es) fl) (by rw[BX];exact aMn es)
    rwa[BX] at this
   refine DX ?_ hp
   intro a b ha _ hab
   obtain⟨i,d,_,_,rfl⟩:=h.edge ha
   exact⟨hab,by dsimp only;omega⟩
  ·intro v hv
   obtain⟨t,ht,rfl⟩:=AT.1 hv
   obtain⟨i,d,hd,hfl,rfl⟩:=h.edge ht
   have hi:=(AK.1 hd).1
   have hk:=(h.fors.2 i true hfl).1 rfl
   refine B3.2 ⟨BF.2 (by dsimp only;omega),decide_eq_true ?_⟩
   dsimp only
   rw[AP]
   exact fun hcn=>hk.2 (hcn.mono fun j hj=>⟨by omega,hj⟩)
 rw[AX] at h2
 omega
end aAm
def dv0 (s n:Nat):Dv:=⟨s,n,fun _=>none,-1,0⟩
def wk0 (s n room:Nat):Wk:=⟨dv0 s n,⟨room,0,0,[]⟩,⟨n,[(0,n)]⟩,[]⟩
theorem bJu (s n:Nat) (hs:8≤s∧s≤256) (hb:n≤1000000):Ct AC 37 [.int .i64 (s:Int),.int .i64 (n:Int)] [] fun v H'=>
  ∃bd c,v= .tuple #[pv bd,.int .i64 0]∧H'=[c]∧aDt bd (dv0 s n) c:=by
 refine Ct.convP (aTt s n hs hb) (.refl _) ?_
 rintro v H' ⟨bd,bl,bn,rfl,rfl⟩
 refine⟨_,⟨bd,_,rfl,rfl,bl,bn,none,0,0,[],[],[],0,[],rfl,Vec.nil _ _,by simp,fun _=>rfl,AS _,hs,hb,by simp[dv0]⟩,by simp[aEf,chs,dv0]⟩
theorem bCc (bd ba bs:Nat):Ct AC 38 [pv bd,pv ba,pv bs] [] fun v H'=>∃bw,v=pv bw∧H'=[aAh bw bd ba bs]:=by
 refine Ct.intro Tryz.func38 rfl Tryz.ntmps38 (nle rfl) fun w0=> ?_;dsimp only[aAa,AD]
 repeat(refine st ?_;intros)
 rename_i bw
 (refine Dn.post (Hr:=[[(bw,row [pv bd,pv ba,pv bs] 101)]]) Tryz.results38 (hR:= ?_);exact⟨bw,rfl,rfl⟩)
theorem live0 (n:Nat) (h:1≤n):aTw ⟨n,[(0,n)]⟩ [] where
 fit:=by simp
 apart:=DU
 free:=fun x hx=>by simp[inF];exact hx
 sum:=by simp[aBb]
theorem wc0 {bd ba bs s n room:Nat} {cd ca cs:aAc} (hn:1≤n) (h1:aDt bd (dv0 s n) cd) (h2:aEg ba ⟨room,0,0,[]⟩ ca) (h3:aEr bs ⟨n,[(0,n)]⟩ cs):Wc bd ba bs (wk0 s n room) cd ca cs:=
 ⟨h1,h2.ar,h3,rfl,live0 n hn⟩
theorem aYg (bd:Nat) (δ:Dv) (c:aAc) (h:aDt bd δ c) (n:Int) (hn: -1≤n∧n≤1000000000):Ct AC 25 [pv bd,.int .i64 n] [c] fun v H'=>
  ∃c',v= .tuple #[]∧H'=[c']∧aDt bd {δ with fault:=n} c':=by
 obtain⟨bl,bn,pp,np,cp,xs,pc,es,ck,junk,rfl,h1,h2,h3,h4,h5,h6,h7⟩:=h
 refine Ct.convP (H2:=[[(bd,row (aBf δ.size δ.blocks bl bn pp np cp δ.fault δ.acts) 115)],(bn,aEf aMh (es.map (Db.ent δ.size)) ck)::(pc++(chs es++junk))])
  (R2:=fun v H'=>v= .tuple #[]∧H'=[[(bd,row (aBf δ.size δ.blocks bl bn pp np cp n δ.acts) 115)],(bn,aEf aMh (es.map (Db.ent δ.size)) ck)::(pc++(chs es++junk))]) ?_ (by simp) ?_
 ·unfold aBf
  have hmx:max n (-1)=n:=by omega
  refine Ct.intro Tryz.func25 rfl Tryz.ntmps25 (nle rfl) fun w0=> ?_;dsimp only[aAa,AD]
  repeat(refine st ?_;intros)
  rw[hmx]
  (refine Dn.postEnd (Hr:=[[(bd,row [.int .i64 (δ.size:Int),.int .i64 (δ.blocks:Int),.map (some bl),.map (some bn),.slice pp np cp,.int .i64 (-1),.int .i64 n,.bool false,.int .i64 (δ.acts:Int)] 115)],(bn,aEf aMh (es.map (Db.ent δ.size)) ck)::(pc++(chs es++junk))]) Tryz.results25 (hR:= ?_);exact⟨rfl,rfl⟩)
 ·rintro v H' ⟨rfl,rfl⟩
  exact⟨_,⟨_,rfl,rfl,bl,bn,pp,np,cp,xs,pc,es,ck,junk,rfl,h1,h2,h3,h4,h5,h6,hn⟩,by simp⟩
theorem big0 (s n room:Nat):big (wk0 s n room).σ.free=n:=by simp[wk0,big]
theorem Lay_k (bw bd ba bs:Nat) (W:Wk) (cd ca cs:aAc) (h:Wc bd ba bs W cd ca cs) (k:Nat) (h1:1≤k) (h2:k≤5) (p:Option Addr) (n cap:Nat) (ts:List T5) (c:aAc) (hv:RV p n ts c) (hn:n≤100000000) (hok:∀t∈ts,okT k t)
  (hr:W.δ.size≤W.α.room-W.α.used) (hf:W.δ.fault= -1) (hac:W.δ.acts≤100000000000) (hb:aAb W.δ.size k n≤big W.σ.free):
  Ct AC 34 [pv bw,.int .i64 (k:Int),.slice p n cap] [aAh bw bd ba bs,cd,ca,cs,c] fun v H'=>
   ∃cd' ca' cs' W' f,v= .tuple #[flv f,.int .i64 0]∧H'=[aAh bw bd ba bs,cd',ca',cs',c]∧Wc bd ba bs W' cd' ca' cs'∧Ev W W' (aAb W.δ.size k n) (aAb W.δ.size k n)∧aBr W.live W W'∧W'.α.gs.Perm W.α.gs∧
    W'.live.Perm (aCh f W.live)∧f.width=k∧f.count=n∧f.blocks=aAb W.δ.size k n∧aAq W'.δ.disk W.δ.size [f.ext] f ts:=by
 refine(Lay_ct bw bd ba bs W cd ca cs h k h1 h2 p n cap ts c hv hn hok hr hf hac).mono ?_
 rintro v H' ⟨cd',ca',cs',W',rfl,hW,hE,hK,hg,⟨_,f,rfl,hl,hw,hc,hfo⟩|⟨hx,_⟩⟩
 ·exact⟨cd',ca',cs',W',f,rfl,rfl,hW,hE,hK,hg,by rw[hl];exact .refl _,hw,hc,by rw[hfo.blk,hw,hc],hfo⟩
 ·omega
theorem aBx.stay {W W':Wk} {x:Fl×List T5} (h:aBx W x) (hs:W'.δ.size=W.δ.size) (hk:aBr W.live W W') (hl:∀e∈W.live,e∈W'.live):aBx W' x:=by
 obtain⟨Lv,h1,h2⟩:=h
 refine⟨Lv,?_,fun e he=>hl e (h2 e he)⟩
 rw[hs]
 exact h1.keep fun y ⟨e,he,h3⟩=>hk y ⟨e,h2 e he,h3⟩
theorem aBx.new {W':Wk} {s:Nat} {f:Fl} {ts:List T5} {l:List Ext} (h:aAq W'.δ.disk s [f.ext] f ts) (hs:W'.δ.size=s) (hl:W'.live.Perm (aCh f l)):aBx W' (f,ts):=by
 subst hs
 exact fo_sub h hl
theorem bAc {f:Fl} {l l':List Ext} (h:l'.Perm (aCh f l)):∀e∈l,e∈l':=fun _ he=>h.mem_iff.2 (aKq he)
theorem aRc {p:Jp} {W W':Wk} {A T:Nat} {ts:List T5} {f:Fl} {e:Int} (h:aDp p W W' A T none ts f e) (hf:W.δ.fault= -1):e=0∧W'.live.Perm (aCh f W.live)∧aAq W'.δ.disk W.δ.size [f.ext] f ts∧W'.δ.fault= -1:=by
 rcases h.res with⟨h1,_,h2,h3⟩|⟨_,_,_,⟨_,h1⟩|⟨m,h1,_⟩⟩
 ·exact⟨h1,h2,h3,h.fault hf⟩
 ·exact absurd hf h1
 ·cases h1
theorem aSr (lab:List Int):(aHg lab).length=lab.length:=by unfold aHg;simp
namespace aAm
variable {N:Nat} {es:List IE} {lab:List Int} {fl:List Bool} {r b:List T5}
theorem arc_of (h:aAm N es lab fl r b) (hf:∀e∈es,inE N e) {k:Nat} (hk:k<r.length):∃(i:Nat) (d:IE) (x:Nat),es[i]? =some d∧fl[i]? =some true∧x<N∧lab[d.1.toNat]? =some (x:Int)∧
  (at5 r k=⟨2*(i:Int),d.1,d.2,(x:Int),0⟩∨at5 r k=⟨2*(i:Int)+1,d.2,d.1,(x:Int),0⟩):=by
 obtain⟨e,he,hx⟩:=h.arcs.edge hk
 obtain⟨i,d,hd,hfl,rfl⟩:=h.edge he
 have h1:=hf d (AZ hd)
 unfold inE at h1
 obtain⟨x,hx1,hx2,_⟩:=h.labs.root (v:=d.1.toNat) (by omega)
 refine⟨i,d,x,hd,hfl,by omega,hx1,?_⟩
 rw[aIx hx1] at hx
 exact hx
theorem b_len (h:aAm N es lab fl r b) (hf:∀e∈es,inE N e) (hN:N≤1000000):b.length≤2*N:=by
 have h1:=h.tours_len hf
 have h2:=h.for_le hf
 omega
end aAm
def edx (r:List T5) (k:Nat):Nat:=((at5 r k).c0/2).toNat
def Fs (fl:List Bool) (i:Nat):Prop:=fl[i]? =some true
def Rch (r:List T5) (j k:Nat):Prop:=∃n,itF (aDj r) n j=k
theorem Rch.trans {r:List T5} {a b c:Nat} (h1:Rch r a b) (h2:Rch r b c):Rch r a c:=by
 obtain⟨n,rfl⟩:=h1
 obtain⟨m,rfl⟩:=h2
 exact⟨m+n,aIt ..⟩
theorem aVq {f:Nat→Nat} {P i:Nat} (h:itF f P i=i):∀n,itF f (n*P) i=i
 |0=>by rw[Nat.zero_mul];rfl
 |n+1=>by rw[BD,aIt,h,aVq h n]
theorem bOm {es:List IE} {fl:List Bool} {i:Nat} {d:IE} (hd:es[i]? =some d) (hf:fl[i]? =some true):(⟨(i:Int),d.1,d.2,0,0⟩:T5)∈aCq (edT es) fl:=by
 unfold aCq
 refine List.mem_filterMap.2 ⟨(⟨(i:Int),d.1,d.2,0,0⟩,true),?_,rfl⟩
 exact AZ (List.getElem?_zip_eq_some.2 ⟨aGn hd,hf⟩)
namespace aIc
variable {a f r:List T5}
theorem pos0 (A:aIc a f r) {k:Nat} (h:k<r.length):0≤(at5 r k).c0:=by
 obtain⟨e,he,hk⟩:=A.edge h
 have:=A.pos e he
 rcases hk with hk|hk<;>rw[hk]<;>dsimp only<;>omega
theorem bro_bro (A:aIc a f r) {k:Nat} (h:k<r.length):aBi r (aBi r k)=k:=by
 have h0:=A.pos0 h
 refine A.num (aCk (aCk h)) h ?_
 rw[A.bro (aCk h),A.bro h]
 dsimp only
 unfold aFm
 split<;>split<;>omega
theorem bro_ne (A:aIc a f r) {k:Nat} (h:k<r.length):aBi r k≠k:=by
 intro hq
 have h1:=congrArg T5.c0 (A.bro h)
 rw[hq] at h1
 dsimp only at h1
 unfold aFm at h1
 split at h1<;>omega
theorem edx_eq (A:aIc a f r) {j k:Nat} (hj:j<r.length) (hk:k<r.length) (h:edx r j=edx r k):j=k∨j=aBi r k:=by
 have h1:=A.pos0 hj
 have h2:=A.pos0 hk
 unfold edx at h
 by_cases he:(at5 r j).c0=(at5 r k).c0
 ·exact .inl (A.num hj hk he)
 ·refine .inr (A.num hj (aCk hk) ?_)
  rw[A.bro hk];dsimp only
  unfold aFm;split<;>omega
theorem symm (A:aIc a f r) {j k:Nat} (hj:j<r.length) (h:Rch r j k):Rch r k j:=by
 obtain⟨n,rfl⟩:=h
 obtain⟨P0,_,P2,_⟩:=A.per hj
 refine⟨n*aHs r j-n,?_⟩
 rw[←aIt,Nat.sub_add_cancel (Nat.le_mul_of_pos_right n P0),aVq P2]
theorem pos_of (A:aIc a f r) {i k:Nat} (hi:i<r.length) (h:Rch r i k):∃n,n<aHs r i∧itF (aDj r) n i=k:=by
 obtain⟨n,hn⟩:=h
 obtain⟨m,_,h2,h3⟩:=aSq (p:=fun n=>itF (aDj r) n i=k) hn
 obtain⟨P0,_,P2,_⟩:=A.per hi
 refine⟨m,?_,h2⟩
 rcases Nat.lt_or_ge m (aHs r i) with h|h
 ·exact h
 ·refine(h3 (m-aHs r i) (by omega) ?_).elim
  rw[←h2]
  conv=>rhs;rw[show m=(m-aHs r i)+aHs r i by omega,aIt,P2]
theorem pos_inj (A:aIc a f r) {i m n:Nat} (hi:i<r.length) (hm:m<aHs r i) (hn:n<aHs r i) (h:itF (aDj r) m i=itF (aDj r) n i):m=n:=by
 obtain⟨_,_,_,P3⟩:=A.per hi
 have key:∀{x y:Nat},x<y→y<aHs r i→itF (aDj r) x i≠itF (aDj r) y i:=by
  intro x y h1 h2 h3
  rw[show y=x+(y-x) by omega,aIt] at h3
  have:=aSo (f:=aDj r) aBj A.sig_inj hi (aBy aBj hi _) x h3
  exact P3 (y-x) (by omega) (by omega) this.symm
 rcases CV m n with h1|h1|h1
 ·exact(key h1 hn h).elim
 ·exact h1
 ·exact(key h1 hm h.symm).elim
end aIc
namespace aAm
variable {N:Nat} {es:List IE} {lab:List Int} {fl:List Bool} {r b:List T5}
theorem bridge (h:aAm N es lab fl r b) (i:Nat) (hi:Fs fl i):¬Cn (gE es) (fun j=>Fs fl j∧j≠i) (gE es i).1 (gE es i).2:=by
 intro hc
 have hk:=(h.fors.2 i true hi).1 rfl
 exact hk.bridge (hc.mono fun j hj=>⟨(h.fors.2 j true hj.1).1 rfl,hj.2⟩)
theorem arc_g (h:aAm N es lab fl r b) (hf:∀e∈es,inE N e) {k:Nat} (hk:k<r.length):Fs fl (edx r k)∧
  ((gE es (edx r k)).1=(at5 r k).c1.toNat∧(gE es (edx r k)).2=(at5 r k).c2.toNat∨(gE es (edx r k)).1=(at5 r k).c2.toNat∧(gE es (edx r k)).2=(at5 r k).c1.toNat)∧
  0≤(at5 r k).c1∧(at5 r k).c1<N∧0≤(at5 r k).c2∧(at5 r k).c2<N:=by
 obtain⟨i,d,x,hd,hfl,_,_,hx⟩:=h.arc_of hf hk
 have h1:=hf d (AZ hd)
 unfold inE at h1
 have hg:gE es i=(d.1.toNat,d.2.toNat):=by unfold gE;rw[hd]
 unfold edx
 rcases hx with hx|hx
 ·have e1:((at5 r k).c0/2).toNat=i:=by rw[hx];dsimp only;omega
  rw[e1,hg,hx];dsimp only
  exact⟨hfl,.inl ⟨rfl,rfl⟩,by omega,by omega,by omega,by omega⟩
 ·have e1:((at5 r k).c0/2).toNat=i:=by rw[hx];dsimp only;omega
  rw[e1,hg,hx];dsimp only
  exact⟨hfl,.inr ⟨rfl,rfl⟩,by omega,by omega,by omega,by omega⟩
theorem rch_bro (h:aAm N es lab fl r b) (hf:∀e∈es,inE N e) {k:Nat} (hk:k<r.length):Rch r k (aBi r k):=by
 refine Classical.byContradiction fun hno=> ?_
 obtain⟨P0,_,P2,P3⟩:=h.arcs.per hk
 have hw:∀n,n<aHs r k→Cn (gE es) (fun j=>Fs fl j∧j≠edx r k) (at5 r k).c2.toNat (at5 r (itF (aDj r) (n+1) k)).c1.toNat:=by
  intro n
  induction n with
  |zero=>
   intro _
   show Cn _ _ _ (at5 r (aDj r k)).c1.toNat
   rw[h.arcs.sig_from hk];exact .refl _
  |succ n ih=>
   intro hn
   have hkn:itF (aDj r) (n+1) k<r.length:=aBy aBj hk _
   refine(ih (by omega)).trans ?_
   show Cn _ _ _ (at5 r (aDj r (itF (aDj r) (n+1) k))).c1.toNat
   rw[h.arcs.sig_from hkn]
   obtain⟨g1,g2,_⟩:=h.arc_g hf hkn
   refine .one ⟨edx r (itF (aDj r) (n+1) k),⟨g1,fun hq=> ?_⟩,g2⟩
   rcases h.arcs.edx_eq hkn hk hq with h1|h1
   ·exact P3 (n+1) (by omega) (by omega) h1
   ·exact hno ⟨n+1,h1⟩
 have h1:=hw (aHs r k-1) (by omega)
 rw[show aHs r k-1+1=aHs r k by omega,P2] at h1
 obtain⟨g1,g2,_⟩:=h.arc_g hf hk
 rcases g2 with⟨g2,g3⟩|⟨g2,g3⟩
 ·exact h.bridge _ g1 (by rw[g2,g3];exact h1.symm)
 ·exact h.bridge _ g1 (by rw[g2,g3];exact h1)
theorem rch_behind (h:aAm N es lab fl r b) (hf:∀e∈es,inE N e) {k:Nat} (hk:k<r.length):Rch r k (aCj r k):=by
 refine(h.rch_bro hf hk).trans ⟨1,?_⟩
 show aCj r (aBi r (aBi r k))=_
 rw[h.arcs.bro_bro hk]
theorem rch_to (h:aAm N es lab fl r b) (hf:∀e∈es,inE N e) {k:Nat} (hk:k<r.length):∀m,k+m<r.length→(at5 r k).c1=(at5 r (k+m)).c1→Rch r k (k+m)
 |0,_,_=>⟨0,rfl⟩
 |m+1,hm,hc=>by
  have e1:=aVo h.arcs.sa (show k≤k+m by omega) (by omega)
  have e2:=aVo h.arcs.sa (show k+m≤k+(m+1) by omega) hm
  refine(h.rch_to hf hk m (by omega) (by omega)).trans ?_
  have hb:=h.rch_behind hf (k:=k+m) (by omega)
  have e3:aCj r (k+m)=k+m+1:=by unfold aCj;rw[if_pos ⟨by omega,by rw[show k+m+1=k+(m+1) by omega];omega⟩]
  rw[e3] at hb
  exact hb
theorem rch_same (h:aAm N es lab fl r b) (hf:∀e∈es,inE N e) {j k:Nat} (hj:j<r.length) (hk:k<r.length) (hc:(at5 r j).c1=(at5 r k).c1):Rch r j k:=by
 rcases Nat.le_total j k with h1|h1
 ·have:=h.rch_to hf hj (k-j) (by omega) (by rw[show j+(k-j)=k by omega];exact hc)
  rwa[show j+(k-j)=k by omega] at this
 ·have:=h.rch_to hf hk (j-k) (by omega) (by rw[show k+(j-k)=j by omega];exact hc.symm)
  rw[show k+(j-k)=j by omega] at this
  exact h.arcs.symm hk this
theorem arc_at (h:aAm N es lab fl r b) (hf:∀e∈es,inE N e) {x y:Nat} (hj:Jn (gE es) (Fs fl) x y):∃k,k<r.length∧(at5 r k).c1=x∧(at5 r k).c2=y:=by
 obtain⟨i,hi,he⟩:=hj
 have hil:i<es.length:=by
  have:=(AK.1 hi).1
  rw[←h.fors.1];exact this
 have hd:es[i]? =some es[i]:=AE hil
 have h1:=hf _ (AZ hd)
 unfold inE at h1
 have hg:gE es i=(es[i].1.toNat,es[i].2.toNat):=by unfold gE;rw[hd]
 rw[hg] at he
 have hm:=bOm hd hi
 rcases he with⟨e1,e2⟩|⟨e1,e2⟩
 ·obtain⟨k,hk,hq⟩:=h.arcs.arc hm (t:=⟨2*(i:Int),es[i].1,es[i].2,(at5 (aHg lab) es[i].1.toNat).c1,0⟩) (by simp[aMp])
  exact⟨k,hk,by rw[hq];dsimp only at e1⊢;omega,by rw[hq];dsimp only at e2⊢;omega⟩
 ·obtain⟨k,hk,hq⟩:=h.arcs.arc hm (t:=⟨2*(i:Int)+1,es[i].2,es[i].1,(at5 (aHg lab) es[i].1.toNat).c1,0⟩) (by simp[aMp])
  exact⟨k,hk,by rw[hq];dsimp only at e2⊢;omega,by rw[hq];dsimp only at e1⊢;omega⟩
theorem rch_cn (h:aAm N es lab fl r b) (hf:∀e∈es,inE N e) {u x:Nat} (hc:Cn (gE es) (Fs fl) u x):∀{j k:Nat},j<r.length→k<r.length→(at5 r j).c1=u→(at5 r k).c1=x→Rch r j k:=by
 induction hc with
 |refl=>intro j k hj hk e1 e2;exact h.rch_same hf hj hk (e1.trans e2.symm)
 |step _ hjn ih=>
  intro j k hj hk e1 e2
  obtain⟨m,hm,m1,m2⟩:=h.arc_at hf hjn
  refine((ih hj hm e1 m1).trans (h.rch_bro hf hm)).trans (h.rch_same hf (aCk hm) hk ?_)
  rw[h.arcs.bro hm,e2];exact m2
theorem cn_f (h:aAm N es lab fl r b) {u x:Nat}:Cn (gE es) (fun i=>i<es.length) u x↔Cn (gE es) (Fs fl) u x:=by
 rw[Kr.conn]
 refine Cn.congr fun i=>⟨fun hk=> ?_,fun hk=>(h.fors.2 i true hk).1 rfl⟩
 have hi:i<fl.length:=by rw[h.fors.1];exact hk.1
 have:=(h.fors.2 i fl[i] (AE hi)).2 hk
 unfold Fs
 rw[AE hi,this]
theorem lab_at (h:aAm N es lab fl r b) (hf:∀e∈es,inE N e) {k:Nat} (hk:k<r.length):∃x:Nat,(at5 r k).c3=x∧x<N∧lab[(at5 r k).c1.toNat]? =some (x:Int)∧Cn (gE es) (Fs fl) (at5 r k).c1.toNat x∧lab[x]? =some (x:Int):=by
 obtain⟨_,_,c1,c2,_,_⟩:=h.arc_g hf hk
 obtain⟨x,h1,h2,h3,h4⟩:=h.labs.root (v:=(at5 r k).c1.toNat) (by omega)
 have hxN:x<N:=by omega
 refine⟨x,?_,hxN,h1,h.cn_f.1 h3,?_⟩
 ·rw[h.arcs.lab (h.hl hf) hk,aIx h1]
 ·rw[←h1];exact h.labs.same hxN (by omega) h3.symm
theorem root_of (h:aAm N es lab fl r b) (hf:∀e∈es,inE N e) {k:Nat} (hk:k<r.length):∃i,i<r.length∧aFn r i=true∧(at5 r i).c3=(at5 r k).c3∧Rch r i k:=by
 obtain⟨x,h1,h2,h3,h4,h5⟩:=h.lab_at hf hk
 obtain⟨_,_,c1,c2,_,_⟩:=h.arc_g hf hk
 have hex:∃k0,k0<r.length∧(at5 r k0).c1=x:=by
  generalize hu:(at5 r k).c1.toNat=u at h4
  cases h4 with
  |refl=>exact⟨k,hk,by omega⟩
  |step _ hj=>
   obtain⟨m,hm,m1,m2⟩:=h.arc_at hf hj.symm
   exact⟨m,hm,m1⟩
 obtain⟨k0,hk0,hk1⟩:=hex
 obtain⟨i,i1,⟨i2,i3⟩,i4⟩:=aSq (p:=fun i=>i<r.length∧(at5 r i).c1=x) ⟨hk0,hk1⟩
 have hc3:(at5 r i).c3=x:=by
  rw[h.arcs.lab (h.hl hf) i2,i3]
  exact aIx h5
 refine⟨i,i2,?_,by rw[hc3,h1],h.rch_cn hf h4.symm i2 hk i3 (by omega)⟩
 unfold aFn
 refine decide_eq_true ⟨by rw[i3,hc3],fun h0 hq=>i4 (i-1) (by omega) ⟨by omega,by rw[hq,i3]⟩⟩
end aAm
def posF (r:List T5) (i k:Nat):Nat:=((BE (aHs r i)).find? fun n=>itF (aDj r) n i==k).getD 0
theorem aAm.posF_spec {N:Nat} {es:List IE} {lab:List Int} {fl:List Bool} {r b:List T5} (h:aAm N es lab fl r b) {i k:Nat} (hi:i<r.length) (hR:Rch r i k):posF r i k<aHs r i∧itF (aDj r) (posF r i k) i=k:=by
 obtain⟨n,hn,he⟩:=h.arcs.pos_of hi hR
 unfold posF
 cases hf:(BE (aHs r i)).find? fun n=>itF (aDj r) n i==k with
 |none=>
  rw[D6] at hf
  exact(hf n (BF.2 hn) (by simp[he])).elim
 |some q=>
  have h1:=List.find?_some hf
  have h2:=BF.1 (DE hf)
  exact⟨h2,by simpa using h1⟩
def vtA (r:List T5) (i n:Nat):Nat:=(at5 r (itF (aDj r) n i)).c1.toNat
def edA (r:List T5) (i n:Nat):Nat:=edx r (itF (aDj r) n i)
def aYh (r:List T5) (i n:Nat):Nat:=posF r i (aBi r (itF (aDj r) n i))
theorem aAm.bro_at {N:Nat} {es:List IE} {lab:List Int} {fl:List Bool} {r b:List T5} (h:aAm N es lab fl r b) (hf:∀e∈es,inE N e) {i n:Nat} (hi:i<r.length):aYh r i n<aHs r i∧itF (aDj r) (aYh r i n) i=aBi r (itF (aDj r) n i):=
 h.posF_spec hi (Rch.trans ⟨n,rfl⟩ (h.rch_bro hf (aBy aBj hi n)))
theorem aAm.vt_succ {N:Nat} {es:List IE} {lab:List Int} {fl:List Bool} {r b:List T5} (h:aAm N es lab fl r b) {i n:Nat} (hi:i<r.length):vtA r i (n+1)=(at5 r (itF (aDj r) n i)).c2.toNat:=by
 show(at5 r (aDj r (itF (aDj r) n i))).c1.toNat=_
 rw[h.arcs.sig_from (aBy aBj hi n)]
theorem aAm.tw {N:Nat} {es:List IE} {lab:List Int} {fl:List Bool} {r b:List T5} (h:aAm N es lab fl r b) (hf:∀e∈es,inE N e) {i:Nat} (hi:i<r.length):Tw (gE es) (Fs fl) (aHs r i) (vtA r i) (edA r i) (aYh r i) where
 mem k hk:=(h.arc_g hf (aBy aBj hi k)).1
 ends k hk:=by rw[h.vt_succ hi];exact(h.arc_g hf (aBy aBj hi k)).2.1
 round:=by unfold vtA;rw[(h.arcs.per hi).2.2.1];rfl
 bro_lt k _:=(h.bro_at hf hi).1
 bro_ne k _ hq:=by
  have h1:=(h.bro_at hf (n:=k) hi).2
  rw[hq] at h1
  exact h.arcs.bro_ne (aBy aBj hi k) h1.symm
 bro_bro k hk:=by
  have h1:=(h.bro_at hf (n:=k) hi)
  have h2:=(h.bro_at hf (n:=aYh r i k) hi)
  refine h.arcs.pos_inj hi h2.1 hk ?_
  rw[h2.2,h1.2,h.arcs.bro_bro (aBy aBj hi k)]
 bro_from k _:=by
  rw[h.vt_succ hi]
  unfold vtA
  rw[(h.bro_at hf hi).2,h.arcs.bro (aBy aBj hi k)]
 bro_to k _:=by
  rw[h.vt_succ hi,(h.bro_at hf hi).2,h.arcs.bro (aBy aBj hi k)];rfl
 uniq j k hj hk he:=by
  rcases h.arcs.edx_eq (aBy aBj hi j) (aBy aBj hi k) he with h1|h1
  ·exact .inl (h.arcs.pos_inj hi hj hk h1)
  ·refine .inr (h.arcs.pos_inj hi hj (h.bro_at hf hi).1 ?_)
   rw[h1,(h.bro_at hf hi).2]
 bridge:=h.bridge
theorem srtOf {o:T5} {l A:List T5} (hp:A.Perm l) (hs:A.Pairwise fun a b=>ltO o a b=true):srt (ltO o) false l=A:=by
 have hir:∀a,ltO o a a=false:=fun a=>by
  cases h:ltO o a a with
  |false=>rfl
  |true=>have:=(aBv o).asym a a h;rw[h] at this;simp at this
 refine List.Perm.eq_of_pairwise (le:=fun a b=>ltO o b a=false) ?_ ((aKu (aBv o) false l).imp fun {a b} h=>by simpa using h) (hs.imp fun {a b} h=>(aBv o).asym a b h) ((aEj l).trans hp.symm)
 intro a b ha hb h1 h2
 have ha':a∈A:=hp.mem_iff.2 (aGk ha)
 refine Classical.byContradiction fun hne=> ?_
 have key:ltO o a b=true∨ltO o b a=true:=by
  obtain⟨i,hi,rfl⟩:=CC.1 ha'
  obtain⟨j,hj,rfl⟩:=CC.1 hb
  rcases CV i j with h3|h3|h3
  ·exact .inl (BQ.1 hs i j hi hj h3)
  ·subst h3;exact(hne rfl).elim
  ·exact .inr (BQ.1 hs j i hj hi h3)
 rcases key with h3|h3
 ·rw[h2] at h3;cases h3
 ·rw[h1] at h3;cases h3
theorem aVr (r:List T5):∀n,(aCw r n).map (·.c0)=(aPt r n).map fun k=>(at5 r k).c0
 |0=>rfl
 |n+1=>by
  rw[aGg,aMc,AV,AV,aVr r n]
  congr 1
  split
  ·unfold aMq aFd;rw[EE,EE];rfl
  ·rfl
theorem bGo (r:List T5):(BE r.length).map (at5 r)=r:=by
 apply List.ext_getElem
 ·simp
 ·intro i h1 h2
  rw[List.getElem_map,List.getElem_range]
  unfold at5
  rw[AN,AE h2];rfl
namespace aAm
variable {N:Nat} {es:List IE} {lab:List Int} {fl:List Bool} {r b:List T5}
theorem idx_perm (h:aAm N es lab fl r b) (hf:∀e∈es,inE N e):(aPt r r.length).Perm (BE r.length):=by
 rw[List.perm_ext_iff_of_nodup (h.arcs.idx_nodup (h.hl hf) (AG _)) List.nodup_range]
 intro k
 rw[BF]
 constructor
 ·intro hk
  obtain⟨i,hi,_,n,_,rfl⟩:=aOz hk
  exact aBy aBj hi n
 ·intro hk
  obtain⟨i,hi,hr,_,hR⟩:=h.root_of hf hk
  obtain⟨n,hn,he⟩:=h.arcs.pos_of hi hR
  unfold aPt
  refine CF.2 ⟨i,BF.2 hi,?_⟩
  rw[if_pos hr]
  exact AT.2 ⟨n,BF.2 hn,he⟩
theorem arc_b (h:aAm N es lab fl r b) {i n:Nat} (hi:i<r.length) (hr:aFn r i=true) (hn:n<aHs r i):aFd r i n∈b:=by
 rw[h.tours]
 unfold aGf aCw
 refine CF.2 ⟨i,BF.2 hi,?_⟩
 rw[if_pos hr]
 exact List.mem_map_of_mem (BF.2 hn)
theorem b_arc (h:aAm N es lab fl r b) {t:T5} (ht:t∈b):∃i n,i<r.length∧aFn r i=true∧n<aHs r i∧t=aFd r i n:=by
 rw[h.tours] at ht
 unfold aGf aCw at ht
 obtain⟨i,hi,hx⟩:=CF.1 ht
 split at hx
 next hr=>
  obtain⟨n,hn,rfl⟩:=AT.1 hx
  exact⟨i,n,BF.1 hi,hr,BF.1 hn,rfl⟩
 next=>simp at hx
end aAm
def trv (x:Int):Nat→Int→Fo→List T5
 |_,_,.nil=>[]
 |p,u,.node v s r=>⟨x,(p:Int),(v:Int),u,((s.sz+1:Nat):Int)⟩::(trv x (p+1) v s++⟨x,((p+1+2*s.sz:Nat):Int),-1,-1,0⟩::trv x (p+2+2*s.sz) u r)
def aHd:Int→Int→Nat→Fo→List T5
 |_,_,_,.nil=>[]
 |u,d,n,.node v s r=>⟨(v:Int),u,(n:Int),((s.sz+1:Nat):Int),d+1⟩::(aHd v (d+1) (n+1) s++aHd u d (n+1+s.sz) r)
theorem aKg:∀(T:Fo) (u d:Int) (n:Nat),(aHd u d n T).map (·.c0)=T.vs.map fun (v:Nat)=>(v:Int)
 | .nil,_,_,_=>rfl
 | .node v s r,u,d,n=>by simp only[aHd,Fo.vs,A0,AV,aKg s,aKg r]
theorem aSs (T:Fo) (u d:Int) (n:Nat):(aHd u d n T).length=T.sz:=by
 rw[←T.vs_len,←AX (f:=fun t:T5=>t.c0),aKg,AX]
theorem aSt:∀(T:Fo) (u d:Int) (n:Nat),(aHd u d n T).map (·.c2)=(List.range' n T.sz).map fun (v:Nat)=>(v:Int)
 | .nil,_,_,_=>rfl
 | .node v s r,u,d,n=>by
  simp only[aHd,Fo.sz,A0,AV,aSt s,aSt r]
  rw[←AV,List.range'_append_1,show s.sz+1+r.sz=(s.sz+r.sz)+1 by omega,List.range'_succ,A0]
theorem aJs:∀{T:Fo} {u d:Int} {n:Nat} {e:T5},e∈aHd u d n T→(n:Int)≤e.c2∧1≤e.c3∧e.c2+e.c3≤((n+T.sz:Nat):Int)∧d+1≤e.c4∧e.c4≤d+(T.sz:Int)
 | .nil,_,_,_,_,h=>by simp[aHd] at h
 | .node v s r,u,d,n,e,h=>by
  simp only[aHd,AM,AO] at h
  simp only[Fo.sz]
  rcases h with rfl|h|h
  ·dsimp only;omega
  ·have:=aJs h;omega
  ·have:=aJs h;omega
theorem aVs {T:Fo} {u d:Int} {n:Nat} {e:T5} (h:e∈aHd u d n T):∃v:Nat,v∈T.vs∧e.c0=v:=by
 have h1:=List.mem_map_of_mem (f:=fun t:T5=>t.c0) h
 rw[aKg] at h1
 obtain⟨v,hv,he⟩:=AT.1 h1
 exact⟨v,hv,he.symm⟩
theorem aNk:∀{T:Fo} {u d:Int} {n:Nat} {e:T5},e∈aHd u d n T→(e.c1=u∧e.c4=d+1)∨∃e'∈aHd u d n T,e'.c0=e.c1∧e.c4=e'.c4+1∧e'.c2<e.c2∧e.c2+e.c3≤e'.c2+e'.c3
 | .nil,_,_,_,_,h=>by simp[aHd] at h
 | .node v s r,u,d,n,e,h=>by
  simp only[aHd,AM,AO] at h⊢
  rcases h with rfl|h|h
  ·exact .inl ⟨rfl,rfl⟩
  ·right
   have hb:=aJs h
   rcases aNk h with⟨h1,h2⟩|⟨e',h1,h2⟩
   ·exact⟨_,.inl rfl,h1.symm,h2,by dsimp only;omega,by dsimp only;omega⟩
   ·exact⟨e',.inr (.inl h1),h2⟩
  ·rcases aNk h with h1|⟨e',h1,h2⟩
   ·exact .inl h1
   ·exact .inr ⟨e',.inr (.inr h1),h2⟩
theorem aYi {J:Int→Nat→Prop}:∀{T:Fo} {u d:Int} {n:Nat} {e:T5},T.Jo J u→e∈aHd u d n T→J e.c1 e.c0.toNat
 | .nil,_,_,_,_,_,h=>by simp[aHd] at h
 | .node v s r,u,d,n,e,hj,h=>by
  obtain⟨h1,h2,h3⟩:=hj
  simp only[aHd,AM,AO] at h
  rcases h with rfl|h|h
  ·dsimp only;rw[AP];exact h1
  ·exact aYi h2 h
  ·exact aYi h3 h
def aYj (p:T5→Bool) (f:T5→Int) (l:List T5):Int:=((l.filter p).map f).sum
theorem bJv (p:T5→Bool) (f:T5→Int):aYj p f []=0:=rfl
theorem aFe (p:T5→Bool) (f:T5→Int) (e:T5) (l:List T5):aYj p f (e::l)=(if p e then f e else 0)+aYj p f l:=by
 unfold aYj
 rw[List.filter_cons]
 split<;>simp
theorem aPa (p:T5→Bool) (f:T5→Int) (a b:List T5):aYj p f (a++b)=aYj p f a+aYj p f b:=by
 unfold aYj;rw[List.filter_append,AV,List.sum_append]
theorem bGp (p:T5→Bool) (f:T5→Int) {a b:List T5} (h:a.Perm b):aYj p f a=aYj p f b:=by
 induction h with
 |nil=>rfl
 |cons x _ ih=>rw[aFe,aFe,ih]
 |swap x y l=>rw[aFe,aFe,aFe,aFe];omega
 |trans _ _ h1 h2=>rw[h1,h2]
theorem aPb (p:T5→Bool) (f:T5→Int) {l:List T5} (h:∀e∈l,p e=false):aYj p f l=0:=by
 unfold aYj
 rw[List.filter_eq_nil_iff.2 (fun e he=>by rw[h e he];decide)]
 rfl
def chF:Int→List Int→Int→Nat→Fo→List (T5×List Int)
 |_,_,_,_,.nil=>[]
 |u,up,d,n,.node v s r=>(⟨(v:Int),u,(n:Int),((s.sz+1:Nat):Int),d+1⟩,(v:Int)::up)::(chF v ((v:Int)::up) (d+1) (n+1) s++chF u up d (n+1+s.sz) r)
theorem aMe:∀(T:Fo) (u:Int) (up:List Int) (d:Int) (n:Nat),(chF u up d n T).map (·.1)=aHd u d n T
 | .nil,_,_,_,_=>rfl
 | .node v s r,u,up,d,n=>by simp only[chF,aHd,A0,AV,aMe s,aMe r]
theorem aSu {T:Fo} {u:Int} {up:List Int} {d:Int} {n:Nat} {x:T5×List Int} (h:x∈chF u up d n T):x.1∈aHd u d n T:=by
 rw[←aMe T u up d n];exact List.mem_map_of_mem h
theorem chF_of {T:Fo} {u:Int} (up:List Int) {d:Int} {n:Nat} {e:T5} (h:e∈aHd u d n T):∃c,(e,c)∈chF u up d n T:=by
 rw[←aMe T u up d n] at h
 obtain⟨⟨e',c⟩,hx,rfl⟩:=AT.1 h
 exact⟨c,hx⟩
inductive Way (par:Int→Int):Int→List Int→Prop
 |top {v:Int}:v<0→Way par v []
 |up {v:Int} {c:List Int}:0≤v→Way par (par v) c→Way par v (v::c)
theorem aYk {par:Int→Int}:∀{T:Fo} {u:Int} {up:List Int} {d:Int} {n:Nat},(∀e∈aHd u d n T,par e.c0=e.c1)→Way par u up→∀x∈chF u up d n T,Way par x.1.c0 x.2
 | .nil,_,_,_,_,_,_,x,h=>by simp[chF] at h
 | .node v s r,u,up,d,n,hp,hu,x,h=>by
  simp only[aHd,AM,AO] at hp
  simp only[chF,AM,AO] at h
  have hv:Way par v ((v:Int)::up):= .up (by omega) (by rw[hp _ (.inl rfl)];exact hu)
  rcases h with rfl|h|h
  ·exact hv
  ·exact aYk (fun e he=>hp e (.inr (.inl he))) hv x h
  ·exact aYk (fun e he=>hp e (.inr (.inr he))) hu x h
theorem aPc:∀{T:Fo} {u:Int} {up:List Int} {d:Int} {n:Nat} {x:T5×List Int},x∈chF u up d n T→(∀w∈up,w∈x.2)∧(∀w∈x.2,w∈up∨∃v∈T.vs,w=(v:Int))∧(x.2.length:Int)+d=x.1.c4+up.length
 | .nil,_,_,_,_,x,h=>by simp[chF] at h
 | .node v s r,u,up,d,n,x,h=>by
  simp only[chF,AM,AO] at h
  simp only[Fo.vs,AM,AO]
  rcases h with rfl|h|h
  ·dsimp only
   refine⟨fun w hw=>AJ _ hw,fun w hw=> ?_,?_⟩
   ·rcases AM.1 hw with rfl|hw
    ·exact .inr ⟨v,.inl rfl,rfl⟩
    ·exact .inl hw
   ·simp only[AL];omega
  ·obtain⟨h1,h2,h3⟩:=aPc h
   refine⟨fun w hw=>h1 w (AJ _ hw),fun w hw=> ?_,by simp only[AL] at h3;omega⟩
   rcases h2 w hw with h4|⟨y,h4,h5⟩
   ·rcases AM.1 h4 with rfl|h4
    ·exact .inr ⟨v,.inl rfl,rfl⟩
    ·exact .inl h4
   ·exact .inr ⟨y,.inr (.inl h4),h5⟩
  ·obtain⟨h1,h2,h3⟩:=aPc h
   refine⟨h1,fun w hw=> ?_,h3⟩
   rcases h2 w hw with h4|⟨y,h4,h5⟩
   ·exact .inl h4
   ·exact .inr ⟨y,.inr (.inr h4),h5⟩
theorem bGq:∀{T:Fo} {u:Int} {up:List Int} {d:Int} {n:Nat},T.vs.Nodup→(∀v∈T.vs,(v:Int)∉up)→∀x∈chF u up d n T,∀e∈aHd u d n T,(e.c0∈x.2↔e.c2≤x.1.c2∧x.1.c2<e.c2+e.c3)
 | .nil,_,_,_,_,_,_,x,h=>by simp[chF] at h
 | .node v s r,u,up,d,n,hn,hu,x,h=>by
  intro e he
  simp only[Fo.vs,CB,AO,B5,not_or] at hn
  obtain⟨⟨hvs,hvr⟩,hns,hnr,hsr⟩:=hn
  simp only[Fo.vs,AM,AO] at hu
  simp only[chF,AM,AO] at h
  simp only[aHd,AM,AO] at he
  have hus:∀y∈s.vs,(y:Int)∉(v:Int)::up:=fun y hy hq=>by
   rcases AM.1 hq with h1|h1
   ·exact hvs (by rw[show v=y by omega];exact hy)
   ·exact hu y (.inr (.inl hy)) h1
  have hur:∀y∈r.vs,(y:Int)∉up:=fun y hy=>hu y (.inr (.inr hy))
  rcases h with rfl|h|h
  ·
   dsimp only
   rcases he with rfl|he|he
   ·dsimp only;simp;omega
   ·obtain⟨y,hy,hye⟩:=aVs he
    have hb:=aJs he
    rw[hye]
    refine⟨fun hq=>(hus y hy hq).elim,fun hq=>by omega⟩
   ·obtain⟨y,hy,hye⟩:=aVs he
    have hb:=aJs he
    rw[hye]
    refine⟨fun hq=> ?_,fun hq=>by omega⟩
    rcases AM.1 hq with h1|h1
    ·exact(hvr (by rw[show v=y by omega];exact hy)).elim
    ·exact(hur y hy h1).elim
  ·have hx:=aJs (aSu h)
   obtain⟨u1,u2,_⟩:=aPc h
   rcases he with rfl|he|he
   ·dsimp only
    exact⟨fun _=>by omega,fun _=>u1 _ AI⟩
   ·exact bGq hns hus x h e he
   ·obtain⟨y,hy,hye⟩:=aVs he
    have hb:=aJs he
    rw[hye]
    refine⟨fun hq=> ?_,fun hq=>by omega⟩
    rcases u2 _ hq with h1|⟨z,hz,h1⟩
    ·rcases AM.1 h1 with h1|h1
     ·exact(hvr (by rw[show v=y by omega];exact hy)).elim
     ·exact(hur y hy h1).elim
    ·exact(hsr z hz y hy (by omega)).elim
  ·have hx:=aJs (aSu h)
   obtain⟨u1,u2,_⟩:=aPc h
   rcases he with rfl|he|he
   ·dsimp only
    refine⟨fun hq=> ?_,fun hq=>by omega⟩
    rcases u2 _ hq with h1|⟨z,hz,h1⟩
    ·exact(hu v (.inl rfl) h1).elim
    ·exact(hvr (by rw[show v=z by omega];exact hz)).elim
   ·obtain⟨y,hy,hye⟩:=aVs he
    have hb:=aJs he
    rw[hye]
    refine⟨fun hq=> ?_,fun hq=>by omega⟩
    rcases u2 _ hq with h1|⟨z,hz,h1⟩
    ·exact(hu y (.inr (.inl hy)) h1).elim
    ·exact(hsr y hy z hz (by omega)).elim
   ·exact bGq hnr hur x h e he
theorem aYl (w:Int):∀{T:Fo} {u:Int} {up:List Int} {d:Int} {n:Nat},T.vs.Nodup→(((chF u up d n T).countP fun x=>decide (w∈x.2):Nat):Int)=if w∈up then(T.sz:Int) else aYj (fun e=>decide (e.c0=w)) (·.c3) (aHd u d n T)
 | .nil,_,_,_,_,_=>by simp[chF,aHd,Fo.sz,bJv]
 | .node v s r,u,up,d,n,hn=>by
  simp only[Fo.vs,CB,AO,B5,not_or] at hn
  obtain⟨⟨hvs,hvr⟩,hns,hnr,_⟩:=hn
  have h1:=aYl w (T:=s) (u:=v) (up:=(v:Int)::up) (d:=d+1) (n:=n+1) hns
  have h2:=aYl w (T:=r) (u:=u) (up:=up) (d:=d) (n:=n+1+s.sz) hnr
  simp only[chF,aHd,List.countP_cons,List.countP_append,aFe,aPa,Fo.sz,decide_eq_true_eq,AM] at h1 h2⊢
  by_cases hu:w∈up
  ·simp only[hu,or_true,if_true] at h1 h2⊢
   omega
  ·by_cases hv:w=(v:Int)
   ·have hz:aYj (fun e=>decide (e.c0=w)) (·.c3) (aHd (v:Int) (d+1) (n+1) s)=0:=aPb _ _ fun e he=>by
     obtain⟨y,hy,hye⟩:=aVs he
     refine decide_eq_false fun hq=>hvs ?_
     rw[show v=y by omega];exact hy
    simp only[hu,or_false,if_false] at h1 h2⊢
    rw[if_pos hv] at h1
    rw[if_pos hv,if_pos hv.symm,hz]
    omega
   ·have hv':¬((v:Int)=w):=fun hq=>hv hq.symm
    simp only[hu,hv,hv',or_self,if_false] at h1 h2⊢
    omega
def aVt (bh bd:Nat):aAt (Bool×T5) where
 C k:=[[(bh,row [.bool k.1] 4)],[(bd,row (aAl k.2) 49)]]
 outs k t:=if k.1 then[⟨(if t.c4<k.2.c4 then t else k.2).c3,(if t.c4<k.2.c4 then t else k.2).c4,(if t.c4<k.2.c4 then t else k.2).c2,(if t.c4<k.2.c4 then t else k.2).c1,
  AH .i64 ((AH .i64 (AH .i64 ((if t.c4<k.2.c4 then k.2 else t).c4-(if t.c4<k.2.c4 then t else k.2).c4)+1)).tdiv 2)⟩,
  ⟨(if t.c4<k.2.c4 then k.2 else t).c3,(if t.c4<k.2.c4 then k.2 else t).c4,-1,-1,0⟩] else[]
 next k t:=if k.1 then(false,if t.c4<k.2.c4 then t else k.2) else(true,t)
 err _ _:=none
def aId (bl bn:Nat):aAt (Int×Int) where
 C k:=[[(bl,row [.int .i64 k.1] 2)],[(bn,row [.int .i64 k.2] 2)]]
 outs k t:=if t.c0=k.1 then[] else if k.1= -1 then[] else[⟨k.1,-1,k.1,-1,k.2⟩]
 next k t:=if t.c0=k.1 then(k.1,AH .i64 (k.2+1)) else(t.c0,1)
 err _ _:=none
def aMr (bd bn:Nat):aAt (Int×Int) where
 C k:=[[(bd,row [.int .i64 k.1] 2)],[(bn,row [.int .i64 k.2] 2)]]
 outs k t:=if t.c2= -1 then[] else[⟨t.c2,t.c3,AH .i64 (AH .i64 (k.2+1)-1),t.c4,if t.c3= -1 then 0 else AH .i64 (k.1+1)⟩]
 next k t:=if t.c2= -1 then(AH .i64 (k.1-1),k.2) else(if t.c3= -1 then 0 else AH .i64 (k.1+1),AH .i64 (k.2+1))
 err _ _:=none
def rootsOut (sts:List T5) (last n:Int):List T5:=sts++if last= -1 then[] else[⟨last,-1,last,-1,n⟩]
def bAd (lts:List T5):List T5:=
 rootsOut ((aId 0 0).all (-1,0) (srt (ltO o1) false (lts.map fun t=>⟨t.c1,0,0,0,0⟩))) ((aId 0 0).st (-1,0) (srt (ltO o1) false (lts.map fun t=>⟨t.c1,0,0,0,0⟩))).1 ((aId 0 0).st (-1,0) (srt (ltO o1) false (lts.map fun t=>⟨t.c1,0,0,0,0⟩))).2
def bGr (tts:List T5):List T5:=(aVt 0 0).all (false,T5.zero) (srt (ltO o1) false tts)
def aSv (lts tts:List T5):List T5:=srt (ltO o12) false (bAd lts++bGr tts)
def aKy (lts tts:List T5):List T5:=srt (ltO o1) false ((aMr 0 0).all (0,0) (aSv lts tts))
def key (x:Int):T5:=⟨x,0,0,0,0⟩
def bGs (l:List (Int×Nat)):List T5:=l.flatMap fun x=>BW x.2 (key x.1)
def rootT (x:Int×Nat):T5:=⟨x.1,-1,x.1,-1,(x.2:Int)⟩
theorem aHe (x:Int×Nat) (l:List (Int×Nat)):bGs (x::l)=BW x.2 (key x.1)++bGs l:=by unfold bGs;rw[A6]
theorem bAe {l:List (Int×Nat)} {t:T5} (h:t∈bGs l):∃x∈l,t=key x.1:=by
 obtain⟨x,hx,h⟩:=CF.1 h
 exact⟨x,hx,(List.mem_replicate.1 h).2⟩
theorem aVu (x:Int) (rest:List T5):∀(n m:Nat),m+n≤1000000000→(aId 0 0).all (x,(m:Int)) (BW n (key x)++rest)=(aId 0 0).all (x,((m+n:Nat):Int)) rest∧
  (aId 0 0).st (x,(m:Int)) (BW n (key x)++rest)=(aId 0 0).st (x,((m+n:Nat):Int)) rest
 |0,m,_=>⟨rfl,rfl⟩
 |n+1,m,h=>by
  have ih:=aVu x rest n (m+1) (by omega)
  have hn:(aId 0 0).next (x,(m:Int)) (key x)=(x,((m+1:Nat):Int)):=by
   unfold aId key;dsimp only
   rw[if_pos rfl,aAd (by omega)];rfl
  have ho:(aId 0 0).outs (x,(m:Int)) (key x)=[]:=by
   unfold aId key;dsimp only
   rw[if_pos rfl]
  rw[List.replicate_succ,AA]
  simp only[aAt.all,aAt.st,hn,ho,AB]
  rw[ih.1,ih.2,show m+1+n=m+(n+1) by omega]
  exact⟨rfl,rfl⟩
theorem aRd:∀(l:List (Int×Nat)) (k:Int×Int),(∀x∈l,x.1≠-1∧1≤x.2∧x.2≤1000000000)→l.Pairwise (fun a b=>a.1<b.1)→(∀x∈l,x.1≠k.1)→
  rootsOut ((aId 0 0).all k (bGs l)) ((aId 0 0).st k (bGs l)).1 ((aId 0 0).st k (bGs l)).2=(if k.1= -1 then[] else[⟨k.1,-1,k.1,-1,k.2⟩])++l.map rootT
 |[],k,_,_,_=>by
  show[]++_=_++[]
  rw[AB,AQ];rfl
 |(x,n)::l,k,h1,h2,h3=>by
  rw[BH] at h2
  obtain⟨hx,hn,hnb⟩:=h1 _ AI
  dsimp only at hx hn hnb
  have hk:=h3 _ AI
  dsimp only at hk
  obtain⟨n,rfl⟩:∃m,n=m+1:=⟨n-1,by omega⟩
  have ih:=aRd l (x,((n+1:Nat):Int)) (fun y hy=>h1 y (AJ _ hy)) h2.2 (fun y hy=>by have:=h2.1 y hy;dsimp only at this⊢;omega)
  rw[if_neg hx] at ih
  have hr:=aVu x (bGs l) n 1 (by omega)
  rw[show 1+n=n+1 by omega,show((1:Nat):Int)=1 from rfl] at hr
  have hnx:(aId 0 0).next k (key x)=(x,1):=by
   unfold aId key;dsimp only
   rw[if_neg hk]
  have ho:(aId 0 0).outs k (key x)=if k.1= -1 then[] else[⟨k.1,-1,k.1,-1,k.2⟩]:=by
   unfold aId key;dsimp only
   rw[if_neg hk]
  rw[aHe,List.replicate_succ,AA]
  simp only[aAt.all,aAt.st,hnx,ho,hr.1,hr.2]
  unfold rootsOut at ih⊢
  rw[AR,ih]
  rfl
theorem bGt:∀(s:List T5),s.Pairwise (fun a b=>a.c0≤b.c0)→(∀t∈s,t=key t.c0)→∃l,s=bGs l∧l.Pairwise (fun a b=>a.1<b.1)∧∀x∈l,1≤x.2∧key x.1∈s
 |[],_,_=>⟨[],rfl,DU,by simp⟩
 |t::s,h1,h2=>by
  rw[BH] at h1
  obtain⟨l,rfl,hl,hx⟩:=bGt s h1.2 fun u hu=>h2 u (AJ _ hu)
  have ht:=h2 t AI
  have hle:∀x∈l,t.c0≤x.1:=fun x hxl=>h1.1 _ (hx x hxl).2
  cases l with
  |nil=>
   refine⟨[(t.c0,1)],by rw[aHe];show[t]=[key t.c0]++[];rw[←ht];rfl,List.pairwise_singleton _ _,?_⟩
   intro x hx
   simp only[AY] at hx;subst hx
   exact⟨AG _,by rw[←ht];exact AI⟩
  |cons y l=>
   obtain⟨x,n⟩:=y
   by_cases hxt:x=t.c0
   ·subst hxt
    refine⟨(t.c0,n+1)::l,by rw[aHe,aHe];dsimp only;rw[List.replicate_succ,AA,←ht],?_,?_⟩
    ·rw[BH] at hl⊢
     exact hl
    ·intro z hz
     rcases AM.1 hz with rfl|hz
     ·exact⟨by dsimp only;omega,by dsimp only;rw[←ht];exact AI⟩
     ·exact⟨(hx z (AJ _ hz)).1,AJ _ (hx z (AJ _ hz)).2⟩
   ·refine⟨(t.c0,1)::(x,n)::l,by rw[aHe (t.c0,1)];dsimp only;rw[←ht];rfl,?_,?_⟩
    ·rw[BH]
     refine⟨fun z hz=> ?_,hl⟩
     have h3:=hle _ AI
     dsimp only at h3⊢
     rcases AM.1 hz with rfl|hz'
     ·dsimp only;omega
     ·have:=(BH.1 hl).1 z hz'
      dsimp only at this
      omega
    ·intro z hz
     rcases AM.1 hz with rfl|hz
     ·exact⟨AG _,by dsimp only;rw[←ht];exact AI⟩
     ·exact⟨(hx z hz).1,AJ _ (hx z hz).2⟩
theorem aRe:∀{l:List (Int×Nat)},l.Pairwise (fun a b=>a.1<b.1)→∀{x:Int×Nat},x∈l→(bGs l).count (key x.1)=x.2
 |y::l,h,x,hx=>by
  rw[BH] at h
  rw[aHe,List.count_append,List.count_replicate]
  rcases AM.1 hx with rfl|hx
  ·have h0:(bGs l).count (key x.1)=0:=by
    rw[List.count_eq_zero]
    intro hm
    obtain⟨z,hz,he⟩:=bAe hm
    have:=h.1 z hz
    have:=congrArg T5.c0 he
    simp only[key] at this
    omega
   rw[h0];simp
  ·have ih:=aRe h.2 hx
   have hne:¬(key y.1=key x.1):=by
    intro he
    have:=h.1 x hx
    have:=congrArg T5.c0 he
    simp only[key] at this
    omega
   rw[ih]
   simp[hne]
theorem aYm {x y:Int} (h:key x=key y):x=y:=congrArg T5.c0 h
theorem bOn (lab:List Int):(aHg lab).map (fun t=>(⟨t.c1,0,0,0,0⟩:T5))=lab.map key:=by
 refine CD fun i=> ?_
 unfold aHg
 rw[EE,BP,BP]
 by_cases h:i<lab.length
 ·rw[DT h,AE h]
  simp[key,AN,h]
 ·rw[BC (by simpa using h),BC (by omega)];rfl
theorem bGu (lab:List Int) (x:Int):(lab.map key).count (key x)=lab.count x:=by
 induction lab with
 |nil=>rfl
 |cons y l ih=>
  rw[A0,List.count_cons,List.count_cons,ih]
  by_cases h:y=x
  ·subst h;simp
  ·have:¬key y=key x:=fun e=>h (aYm e)
   simp[h,this]
theorem aVv {lab:List Int} (h0:∀x∈lab,0≤x) (hlen:lab.length≤1000000):∃l:List (Int×Nat),bAd (aHg lab)=l.map rootT∧l.Pairwise (fun a b=>a.1<b.1)∧(∀x∈l,x.1∈lab∧x.2=lab.count x.1)∧∀y∈lab,∃x∈l,x.1=y:=by
 have hp:(srt (ltO o1) false (lab.map key)).Perm (lab.map key):=aEj _
 have hs:(srt (ltO o1) false (lab.map key)).Pairwise (fun a b=>a.c0≤b.c0):=(aKu (aBv o1) false (lab.map key)).imp fun {a b} h=>by
  simp only[Bool.false_eq_true,if_false] at h
  have h2:¬(ltO o1 b a=true):=by rw[h];decide
  rw[aOq] at h2
  omega
 obtain⟨l,hl,hlp,hlm⟩:=bGt _ hs (fun t ht=>by
  obtain⟨x,_,rfl⟩:=AT.1 (hp.mem_iff.1 ht);rfl)
 have hin:∀x∈l,x.1∈lab:=fun x hx=>by
  obtain⟨y,hy,he⟩:=AT.1 (hp.mem_iff.1 (hlm x hx).2)
  rw[←aYm he];exact hy
 have hcn:∀x∈l,x.2=lab.count x.1:=fun x hx=>by
  rw[←aRe hlp hx,←hl,hp.count_eq,bGu]
 refine⟨l,?_,hlp,fun x hx=>⟨hin x hx,hcn x hx⟩,fun y hy=> ?_⟩
 ·unfold bAd
  rw[bOn,hl,aRd l (-1,0) (fun x hx=>⟨fun he=>by have:=h0 _ (hin x hx);omega,(hlm x hx).1,by have:=List.count_le_length (a:=x.1) (l:=lab);have:=hcn x hx;omega⟩) hlp (fun x hx he=>by have:=h0 _ (hin x hx);dsimp only at he;omega)]
  rfl
 ·obtain⟨x,hx,he⟩:=bAe (l:=l) (by rw[←hl];exact hp.mem_iff.2 (AT.2 ⟨y,hy,rfl⟩))
  exact⟨x,hx,(aYm he).symm⟩
namespace aAm
variable {N:Nat} {es:List IE} {lab:List Int} {fl:List Bool} {r b:List T5}
theorem roots_for (h:aAm N es lab fl r b) (hf:∀e∈es,inE N e) (hN:N≤1000000):(bAd (aHg lab)).length+(aCq (edT es) fl).length≤N:=by
 classical
 obtain⟨l,hl,hlp,hlm,_⟩:=aVv (lab:=lab) (fun x hx=>by obtain⟨v,rfl,_⟩:=h.labs.mem hx;omega) (by rw[h.labs.len];exact hN)
 have hc:=aIv (g:=gE es) (n:=N) (fun k v=>decide (Mn (gE es) (fun j=>j<k) v)) (fun i=>decide (¬Cn (gE es) (fun j=>j<i) (gE es i).1 (gE es i).2)) (fun k v=>decide_eq_true_iff) (fun i=>decide_eq_true_iff) es.length (gE_lt hf)
 have h1:(l.map fun x=>x.1.toNat).length≤((BE N).filter fun v=>decide (Mn (gE es) (fun j=>j<es.length) v)).length:=by
  refine List.Nodup.length_le_of_subset ?_ ?_
  ·refine List.Pairwise.map _ (R:=fun (a b:Int×Nat)=>a.1<b.1∧0≤a.1) (fun a b h=>by omega) ?_
   refine DX ?_ hlp
   intro a b ha _ hab
   obtain⟨v,hv,_⟩:=h.labs.mem (hlm a ha).1
   omega
  ·intro v hv
   obtain⟨x,hx,rfl⟩:=AT.1 hv
   obtain⟨v,hv,hvN,hm⟩:=h.labs.mem (hlm x hx).1
   rw[hv]
   exact B3.2 ⟨BF.2 (by omega),decide_eq_true (by simpa using hm)⟩
 have h2:((aCq (edT es) fl).map fun t=>t.c0.toNat).length≤((BE es.length).filter fun i=>decide (¬Cn (gE es) (fun j=>j<i) (gE es i).1 (gE es i).2)).length:=by
  refine List.Nodup.length_le_of_subset ?_ ?_
  ·refine List.Pairwise.map _ (R:=fun (a b:T5)=>a.c0<b.c0∧0≤a.c0) (fun a b h=>by omega) ?_
   have hp:(aCq (edT es) fl).Pairwise fun a b=>a.c0<b.c0:=by
    have:=List.Pairwise.sublist (R:=fun x y:Int=>x<y) (aHt (edT es) fl) (by rw[BX];exact aMn es)
    rwa[BX] at this
   refine DX ?_ hp
   intro a b ha _ hab
   obtain⟨i,d,_,_,rfl⟩:=h.edge ha
   exact⟨hab,by dsimp only;omega⟩
  ·intro v hv
   obtain⟨t,ht,rfl⟩:=AT.1 hv
   obtain⟨i,d,hd,hfl,rfl⟩:=h.edge ht
   have hi:=(AK.1 hd).1
   have hk:=(h.fors.2 i true hfl).1 rfl
   refine B3.2 ⟨BF.2 (by dsimp only;omega),decide_eq_true ?_⟩
   dsimp only
   rw[AP]
   exact fun hcn=>hk.2 (hcn.mono fun j hj=>⟨by omega,hj⟩)
 rw[AX] at h1 h2
 rw[hl,AX]
 omega
end aAm
theorem aIy {α β:Type} {f:α→β}:∀{l:List α},(l.map f).Nodup→∀{x y:α},x∈l→y∈l→f x=f y→x=y
 |[],_,_,_,h,_,_=>by simp at h
 |a::l,hn,x,y,hx,hy,h=>by
  rw[A0,CB] at hn
  rcases AM.1 hx with rfl|hx1
  ·rcases AM.1 hy with rfl|hy1
   ·rfl
   ·exact(hn.1 (h▸List.mem_map_of_mem hy1)).elim
  ·rcases AM.1 hy with rfl|hy1
   ·exact(hn.1 (h▸List.mem_map_of_mem hx1)).elim
   ·exact aIy hn.2 hx1 hy1 h
def aFg (b:List T5) (x:Int):T5:=(b.find? fun t=>t.c0==x).getD T5.zero
theorem aKh {b:List T5} (hn:(b.map (·.c0)).Nodup) {t:T5} (ht:t∈b):aFg b t.c0=t:=by
 unfold aFg
 cases hf:b.find? fun u=>u.c0==t.c0 with
 |none=>
  rw[D6] at hf
  exact(hf t ht (by simp)).elim
 |some q=>
  have h1:=List.find?_some hf
  exact aIy hn (DE hf) ht (by simpa using h1)
def aJm (b:List T5) (t:T5):T5:=
 if t.c4<(aFg b (aFm t.c0)).c4 then⟨t.c3,t.c4,t.c2,t.c1,((aFg b (aFm t.c0)).c4-t.c4+1)/2⟩ else⟨t.c3,t.c4,-1,-1,0⟩
def aKz (b f:List T5):List T5:=f.flatMap fun e=>[aFg b (2*e.c0),aFg b (2*e.c0+1)]
theorem bJw (b:List T5) (f:List T5):aKz b f=(f.flatMap fun e=>[2*e.c0,2*e.c0+1]).map (aFg b):=by
 unfold aKz;rw[List.map_flatMap];rfl
theorem tdiv2 {x y:Int} (hx:0≤x) (hxy:x<y) (hy:y≤1000000000):AH .i64 ((AH .i64 (AH .i64 (y-x)+1)).tdiv 2)=(y-x+1)/2:=by
 rw[aAd (n:=y-x) (by omega),aAd (n:=y-x+1) (by omega),CL (by omega),aAd (by omega)]
theorem aPd (b:List T5):∀(f:List T5) (d:T5),(∀e∈f,0≤e.c0∧(aFg b (2*e.c0)).c0=2*e.c0∧(aFg b (2*e.c0+1)).c0=2*e.c0+1∧0≤(aFg b (2*e.c0)).c4∧(aFg b (2*e.c0)).c4≤1000000000∧0≤(aFg b (2*e.c0+1)).c4∧(aFg b (2*e.c0+1)).c4≤1000000000∧(aFg b (2*e.c0)).c4≠(aFg b (2*e.c0+1)).c4)→
  ((aVt 0 0).all (false,d) (aKz b f)).Perm ((aKz b f).map (aJm b))
 |[],_,_=> .refl _
 |e::f,d,h=>by
  obtain⟨h0,h1,h2,h3,h4,h5,h6,h7⟩:=h e AI
  have ih:=fun d=>aPd b f d fun e he=>h e (AJ _ he)
  have e1:aKz b (e::f)=aFg b (2*e.c0)::aFg b (2*e.c0+1)::aKz b f:=by unfold aKz;rw[A6];rfl
  have f1:aFm (aFg b (2*e.c0)).c0=2*e.c0+1:=by rw[h1];unfold aFm;rw[if_pos (by omega)]
  have f2:aFm (aFg b (2*e.c0+1)).c0=2*e.c0:=by rw[h2];unfold aFm;rw[if_neg (by omega)];omega
  generalize hu:aFg b (2*e.c0)=u at*
  generalize ht:aFg b (2*e.c0+1)=t at*
  rw[e1]
  show((aVt 0 0).all (false,d) (u::t::aKz b f)).Perm (aJm b u::aJm b t::(aKz b f).map (aJm b))
  have e2:(aVt 0 0).all (false,d) (u::t::aKz b f)=(aVt 0 0).outs (true,u) t++(aVt 0 0).all (false,if t.c4<u.c4 then t else u) (aKz b f):=by
   simp only[aAt.all];rfl
  rw[e2]
  have hvu:aJm b u=if u.c4<t.c4 then⟨u.c3,u.c4,u.c2,u.c1,(t.c4-u.c4+1)/2⟩ else⟨u.c3,u.c4,-1,-1,0⟩:=by unfold aJm;rw[f1,ht]
  have hvt:aJm b t=if t.c4<u.c4 then⟨t.c3,t.c4,t.c2,t.c1,(u.c4-t.c4+1)/2⟩ else⟨t.c3,t.c4,-1,-1,0⟩:=by unfold aJm;rw[f2,hu]
  have ho:(aVt 0 0).outs (true,u) t=if t.c4<u.c4 then[aJm b t,aJm b u] else[aJm b u,aJm b t]:=by
   unfold aVt
   dsimp only
   rw[if_pos rfl,hvu,hvt]
   by_cases hc:t.c4<u.c4
   ·rw[if_pos hc,if_pos hc,if_pos hc,if_pos hc,if_neg (by omega),tdiv2 h5 hc h4]
   ·rw[if_neg hc,if_neg hc,if_neg hc,if_neg hc,if_pos (by omega),tdiv2 h3 (by omega) h6]
  rw[ho]
  split
  ·exact(CO _ _ _).trans (((ih _).cons _).cons _)
  ·exact((ih _).cons _).cons _
namespace aAm
variable {N:Nat} {es:List IE} {lab:List Int} {fl:List Bool} {r b:List T5}
theorem nums (h:aAm N es lab fl r b) (hf:∀e∈es,inE N e):(b.map (·.c0)).Perm ((aCq (edT es) fl).flatMap fun e=>[2*e.c0,2*e.c0+1]):=by
 have h1:(b.map (·.c0)).Perm (r.map (·.c0)):=by
  rw[h.tours]
  unfold aGf
  rw[aVr]
  conv=>rhs;rw[←bGo r,EE]
  exact(h.idx_perm hf).map _
 refine h1.trans ((h.arcs.perm.map _).trans (List.Perm.of_eq ?_))
 unfold aMa
 rw[List.map_flatMap];rfl
theorem nums_nodup (h:aAm N es lab fl r b) (hf:∀e∈es,inE N e):(b.map (·.c0)).Nodup:=by
 refine(h.nums hf).nodup_iff.2 ?_
 have:=aKx h.arcs.nd (aHg lab)
 unfold aMa at this
 rw[List.map_flatMap] at this
 exact this
theorem pair_perm (h:aAm N es lab fl r b) (hf:∀e∈es,inE N e):(aKz b (aCq (edT es) fl)).Perm b:=by
 rw[bJw]
 refine(((h.nums hf).map (aFg b)).symm).trans (List.Perm.of_eq ?_)
 rw[EE]
 conv=>rhs;rw[←List.map_id b]
 exact List.map_congr_left fun t ht=>aKh (h.nums_nodup hf) ht
theorem num_b (h:aAm N es lab fl r b) (hf:∀e∈es,inE N e) {e:T5} (he:e∈aCq (edT es) fl) {x:Int} (hx:x=2*e.c0∨x=2*e.c0+1):∃t∈b,t.c0=x:=by
 have:=(h.nums hf).mem_iff (a:=x)
 obtain⟨t,ht,hq⟩:=AT.1 (this.2 (CF.2 ⟨e,he,by simpa using hx⟩))
 exact⟨t,ht,hq⟩
theorem look_flip (h:aAm N es lab fl r b) (hf:∀e∈es,inE N e) {i n:Nat} (hi:i<r.length) (hr:aFn r i=true):aFg b (aFm (aFd r i n).c0)=aFd r i (aYh r i n):=by
 obtain⟨h1,h2⟩:=h.bro_at hf (n:=n) hi
 have h3:(aFd r i (aYh r i n)).c0=aFm (aFd r i n).c0:=by
  unfold aFd;dsimp only
  rw[h2,h.arcs.bro (aBy aBj hi n)]
 rw[←h3]
 exact aKh (h.nums_nodup hf) (h.arc_b hi hr h1)
theorem vis_at (h:aAm N es lab fl r b) (hf:∀e∈es,inE N e) {i n:Nat} (hi:i<r.length) (hr:aFn r i=true):aJm b (aFd r i n)=
  if n<aYh r i n then⟨(at5 r i).c3,(n:Int),(vtA r i (n+1):Int),(vtA r i n:Int),((aYh r i n:Int)-n+1)/2⟩ else⟨(at5 r i).c3,(n:Int),-1,-1,0⟩:=by
 obtain⟨_,_,c1,_,c2,_⟩:=h.arc_g hf (aBy aBj hi n)
 have e1:((aFd r i n).c4)=(n:Int):=rfl
 have e2:(aFd r i n).c3=(at5 r i).c3:=h.arcs.it_lab (h.hl hf) hi n
 have e3:(aFd r i n).c2=(vtA r i (n+1):Int):=by rw[h.vt_succ hi];show(at5 r (itF (aDj r) n i)).c2=_;omega
 have e4:(aFd r i n).c1=(vtA r i n:Int):=by unfold vtA;show(at5 r (itF (aDj r) n i)).c1=_;omega
 unfold aJm
 rw[h.look_flip hf hi hr,e1,e2,e3,e4]
 show(if(n:Int)<(aYh r i n:Int) then _ else _)=_
 by_cases hc:n<aYh r i n
 ·rw[if_pos hc,if_pos (by omega)];rfl
 ·rw[if_neg hc,if_neg (by omega)]
theorem pairs_sorted (h:aAm N es lab fl r b) (hf:∀e∈es,inE N e):(aKz b (aCq (edT es) fl)).Pairwise fun x y=>ltO o1 x y=true:=by
 have h1:(aCq (edT es) fl).Pairwise fun a b=>a.c0<b.c0:=by
  have:=List.Pairwise.sublist (R:=fun x y:Int=>x<y) (aHt (edT es) fl) (by rw[BX];exact aMn es)
  rwa[BX] at this
 have hlk:∀e∈aCq (edT es) fl,(aFg b (2*e.c0)).c0=2*e.c0∧(aFg b (2*e.c0+1)).c0=2*e.c0+1:=fun e he=>by
  obtain⟨t,ht,hq⟩:=h.num_b hf he (.inl rfl)
  obtain⟨u,hu,hq2⟩:=h.num_b hf he (.inr rfl)
  rw[←hq2,aKh (h.nums_nodup hf) hu,←hq,aKh (h.nums_nodup hf) ht]
  exact⟨rfl,rfl⟩
 unfold aKz
 rw[List.pairwise_flatMap]
 refine⟨fun e he=> ?_,DX (fun {a c} ha hc hac=> ?_) h1⟩
 ·obtain⟨l1,l2⟩:=hlk e he
  simp only[BH,AY,CJ,false_implies,implies_true,DU,and_true,forall_eq]
  rw[aOq];omega
 ·obtain⟨a1,a2⟩:=hlk a ha
  obtain⟨c1,c2⟩:=hlk c hc
  intro x hx y hy
  rw[aOq]
  simp only[AM,CJ,or_false] at hx hy
  rcases hx with rfl|rfl<;>rcases hy with rfl|rfl<;>omega
theorem turns_perm (h:aAm N es lab fl r b) (hf:∀e∈es,inE N e) (hN:N≤1000000):(bGr b).Perm (b.map (aJm b)):=by
 unfold bGr
 rw[srtOf (h.pair_perm hf) (h.pairs_sorted hf)]
 refine(aPd b _ _ ?_).trans ((h.pair_perm hf).map _)
 intro e he
 obtain⟨j,d,_,_,rfl⟩:=h.edge he
 obtain⟨t,ht,hq⟩:=h.num_b hf he (.inl rfl)
 obtain⟨u,hu,hq2⟩:=h.num_b hf he (.inr rfl)
 rw[←hq2,aKh (h.nums_nodup hf) hu,←hq,aKh (h.nums_nodup hf) ht]
 dsimp only at hq hq2
 obtain⟨i,n,hi,hr,hn,rfl⟩:=h.b_arc ht
 have hub:u=aFd r i (aYh r i n):=by
  rw[←h.look_flip hf hi hr,hq,show aFm (2*(j:Int))=2*j+1 by unfold aFm;rw[if_pos (by omega)],←hq2,aKh (h.nums_nodup hf) hu]
 obtain⟨hb1,_⟩:=h.bro_at hf (n:=n) hi
 have hbn:=(h.tw hf hi).bro_ne n hn
 have hp:=(h.arcs.per hi).2.1
 have hrl:=h.len
 have hrf:=h.roots_for hf hN
 refine⟨by dsimp only;omega,rfl,rfl,?_,?_,?_,?_,?_⟩
 ·show 0≤((n:Nat):Int);omega
 ·show((n:Nat):Int)≤_;omega
 ·rw[hub];show 0≤((aYh r i n:Nat):Int);omega
 ·rw[hub];show((aYh r i n:Nat):Int)≤_;omega
 ·rw[hub];show((n:Nat):Int)≠((aYh r i n:Nat):Int);omega
end aAm
theorem aWg.vis {P:Nat} {vt bro:Nat→Nat} {x:Int} {f:Nat→T5} (hf:∀n,n<P→f n=if n<bro n then⟨x,(n:Int),(vt (n+1):Int),(vt n:Int),((bro n:Int)-n+1)/2⟩ else⟨x,(n:Int),-1,-1,0⟩):
  ∀{T:Fo} {p q:Nat},aWg P vt bro T p q→(List.range' p (2*T.sz)).map f=trv x p (vt p) T
 | .nil,p,q,h=>rfl
 | .node v s r,p,q,h=>by
  obtain⟨hp,hd,hbP,rfl,hbb,hbt,h1,h2⟩:=h
  have e1:=h1.len
  have i1:=h1.vis hf
  have i2:=h2.vis hf
  have e2:2*(Fo.node (vt (p+1)) s r).sz=(2*s.sz+(2*r.sz+1))+1:=by simp only[Fo.sz];omega
  rw[e2,List.range'_succ,←List.range'_append_1,List.range'_succ,A0,AV,A0,i1]
  have hbro:bro p=p+1+2*s.sz:=e1
  rw[hbt,hbro] at i2
  rw[show p+1+2*s.sz+1=p+2+2*s.sz by omega] at i2⊢
  rw[i2]
  simp only[trv]
  congr 1
  ·rw[hf p hp,if_pos hd,hbro]
   congr 1;omega
  ·congr 2
   rw[hf _ (by omega),if_neg (by rw[←hbro,hbb];omega)]
theorem bAf {α:Type} (L:List α) (i:Nat) {p:Nat→Bool}:∀{n:Nat},(∀j,j<n→p j=true→j=i)→(BE n).flatMap (fun j=>if p j then(if j=i then L else[]) else[])=if i<n∧p i=true then L else[]
 |0,_=>by simp
 |n+1,h=>by
  rw[DZ,B9,bAf L i (n:=n) fun j hj=>h j (by omega),A6,List.flatMap_nil,AQ]
  by_cases hp:p n=true
  ·have:=h n (by omega) hp
   subst this
   rw[if_pos hp,if_pos rfl,if_neg (by omega),if_pos ⟨by omega,hp⟩,AB]
  ·rw[if_neg hp,AQ]
   by_cases hi:i<n∧p i=true
   ·rw[if_pos hi,if_pos ⟨by omega,hi.2⟩]
   ·rw[if_neg hi,if_neg]
    rintro⟨h1,h2⟩
    have h4:i<n:=by
     rcases Nat.eq_or_lt_of_le (Nat.lt_succ_iff.1 h1) with rfl|h3
     ·exact(hp h2).elim
     ·exact h3
    exact hi ⟨h4,h2⟩
end Go.Proofs.YtammjnjpheobaaaGreat
