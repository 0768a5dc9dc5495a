/-
  Parts of the proof, put together (14). No condition.
-/
import Derived.Test.YtaofijjjheiknaaGreatM13
set_option linter.unusedVariables false
set_option linter.unusedSimpArgs false
set_option linter.unnecessarySimpa false
set_option maxHeartbeats 4000000
open Classical renaming byContradiction→DI
open Go.IntKind renaming wrap→AJ
open Go.Proofs.Tryz renaming prog→AC
open Int renaming toNat_natCast→AR,tdiv_eq_ediv_of_nonneg→CE
open List renaming cons_append→AA,nil_append→AB,getElem?_eq_getElem→AE,length_append→AF,mem_cons_self→AH,mem_cons_of_mem→AI,getElem?_eq_some_iff→AK,length_cons→AL,mem_cons→AM,getD_eq_getElem?_getD→AN,mem_append→AO,append_assoc→AP,append_nil→AQ,mem_singleton→AT,mem_map→AU,map_append→AX,length_map→AY,map_cons→AZ,mem_of_getElem?→A3,mem_range→A6,flatMap_cons→A8,pairwise_map→BC,pairwise_cons→BF,range→BH,pairwise_iff_getElem→BJ,getElem?_eq_none→BL,take_add_one→BP,getElem?_map→BU,replicate→BY,mem_filter→B0,not_mem_nil→B6,nodup_append→B8,mem_flatMap→B9,nodup_cons→CB,flatMap_append→CF,mem_iff_getElem→CG,ext_getElem?→CH,map_map→DE,mem_of_find?_eq_some→DJ,getElem?_range→DY,mem_iff_getElem?→D5,map_nil→D7,range_succ→D8,find?_eq_none→EE
open List.Pairwise renaming nil→CI,imp_of_mem→D6
open List.Perm renaming swap→CQ
open Nat renaming reduceAdd→AD,le_refl→AG,zero_le→AS,succ_mul→BG,add_zero→CD,lt_trichotomy→CJ
open Option.some renaming inj→BD
namespace Go.Proofs.YtaofijjjheiknaaGreat
open Go.SL Go.Tup Go.Gr
def aNj (a:List T5) (t:T5):List T5:=[⟨2*t.c0,t.c1,t.c2,(at5 a t.c1.toNat).c1,0⟩,⟨2*t.c0+1,t.c2,t.c1,(at5 a t.c1.toNat).c1,0⟩]
def aMm (a f:List T5):List T5:=f.flatMap (aNj a)
theorem bEx {a f:List T5} {i:Nat} {t:T5} (h:f[i]? =some t):aMm a (f.take (i+1))=aMm a (f.take i)++aNj a t:=by
 unfold aMm;rw[BP,h];simp
structure ArX where
 i:Nat
 n:Nat
 p:Option Addr
 cap:Nat
 ch:aAc
 r:List T5
theorem bNk (pa:Option Addr) (na ka:Nat) (a:List T5) (ca:aAc) (ac:RV pa na a ca) (pf:Option Addr) (nf kf:Nat) (f:List T5) (cf:aAc) (ad:RV pf nf f cf) (hn:nf≤100000) (a0:na≤1000000)
  (hf:∀t∈f,0≤t.c0∧t.c0≤1099511627776∧0≤t.c1∧t.c1<na):
  Ct AC 102 [.slice pa na ka,.slice pf nf kf] [ca,cf] fun v H'=>∃p cap c r,v= .slice p (2*nf) cap∧H'=[ca,cf,c]∧Vec 33 5 p (2*nf) cap (flat r) c∧r.Perm (aMm a f)∧Sa r:=by
 have a1:=ad.1
 have a2:=ac.1
 have ae:=eQ3
 refine Ct.go Tryz.func102 Tryz.ntmps102 fun w0=> ?_
 repeat(refine sv ?_;intros)
 refine G.loop (X:=ArX) (fun x=>x.i≤nf∧x.n=2*x.i∧Vec 33 5 x.p x.n x.cap (flat x.r) x.ch∧x.r.Perm (aMm a (f.take x.i))∧Sa x.r)
  (fun x=>[(6,.int .i64 (x.i:Int)),(5,.slice x.p x.n x.cap),(1,.slice pf nf kf),(0,.slice pa na ka)])
  (fun x=>[ca,cf,x.ch]) (fun x=>nf-x.i) ⟨0,0,none,0,[],[]⟩ ⟨AS _,rfl,Vec.nil _ _,by simp[aMm],CI⟩ oA3 oA0 ?_
 rintro⟨i,n,p,cap,ch,r⟩ ⟨hi,ag,hV,hp,hs⟩
 dsimp only at hi ag hV hp hs⊢
 by_cases ao:i<nf
 ·obtain⟨b,off,cs,T,fz,rfl,rfl,_,aa⟩:=(RV.rw ad).pos aAr oM
  have hit:f[i]? =some f[i]:=AE oM
  have q0:=aa i 0 _ _ hit rfl
  have q1:=aa i 1 _ _ hit rfl
  have q2:=aa i 2 _ _ hit rfl
  rw[CD] at q0
  obtain⟨f1,f2,f3,f4⟩:=hf _ (A3 hit)
  have ap:=bEx (a:=a) hit
  generalize ht:f[i]=t at*
  obtain⟨u,hu⟩:∃u:Nat,t.c1=(u:Int):=⟨t.c1.toNat,oM⟩
  have aq:t.c1.toNat=u:=oM
  obtain⟨b2,az,a3,T2,a4,rfl,rfl,_,ab⟩:=(RV.rw ac).pos aAr oM
  have ah:a[u]? =some a[u]:=AE oM
  have r1:=ab u 1 _ _ ah rfl
  have ai:at5 a t.c1.toNat=a[u]:=by rw[aq];unfold at5;rw[AN,ah];rfl
  generalize ha:a[u]=w at*
  have e1:AJ .i64 (2*t.c0)=2*t.c0:=aAd oM
  have e2:AJ .i64 (2*t.c0+1)=2*t.c0+1:=aAd oM
  have hP:=bJo p n cap r ch hV oM ⟨2*t.c0,t.c1,t.c2,w.c1,0⟩
  rw[ae] at hP
  repeat(refine sv ?_;intros)
  refine R.call (hct:=hP) (h:= ?_)
  rintro _ _ ⟨p1,aj,au,av,rfl,rfl,aw,ak⟩
  try dsimp only[AA,AB]
  have al:=bJo p1 (n+1) aj av au aw oM ⟨2*t.c0+1,t.c2,t.c1,w.c1,0⟩
  rw[ae] at al
  repeat(refine sv ?_;intros)
  refine R.call (hct:=al) (h:= ?_)
  rintro _ _ ⟨p2,am,ax,r2,rfl,rfl,ay,an⟩
  try dsimp only[AA,AB]
  repeat(refine sv ?_;intros)
  refine Dn.round ⟨i+1,n+1+1,p2,am,ax,r2⟩ ⟨ao,oD,ay,?_,an.sa (ak.sa hs)⟩ oD
  dsimp only
  rw[ap]
  unfold aNj
  rw[ai]
  refine an.perm.trans (((ak.perm.trans (hp.cons _)).cons _).trans ?_)
  refine(CQ _ _ _).trans ?_
  exact List.perm_append_comm (l₁:=[_,_])
 ·obtain rfl:i=nf:=by omega
  rw[List.take_of_length_le oM] at hp
  obtain rfl:=ag
  repeat(refine sv ?_;intros)
  (refine Dn.post (Hr:=[ca,cf,ch]) Tryz.results102 (hR:= ?_);exact⟨p,cap,ch,r,rfl,rfl,hV,hp,hs⟩)
def aFc (r:List T5):Nat→Nat
 |0=>0
 |k+1=>if(at5 r k).c1=(at5 r (k+1)).c1 then aFc r k else k+1
def aCl (r:List T5) (k:Nat):Nat:=if k+1<r.length∧(at5 r (k+1)).c1=(at5 r k).c1 then k+1 else aFc r k
theorem aCd {r:List T5} {k:Nat} (h:k<r.length):r[k]? =some (at5 r k):=by unfold at5;rw[AN,AE h];rfl
theorem bCm (r:List T5):∀k,aFc r k≤k
 |0=>AG _
 |k+1=>by unfold aFc;split;exact Nat.le_succ_of_le (bCm r k);exact AG _
theorem bEy {r:List T5} {k:Nat} (h:k<r.length):aCl r k<r.length:=by
 unfold aCl;split
 ·omega
 ·have:=bCm r k;omega
theorem bEz (p:Option Addr) (m cap:Nat) (r:List T5) (c:aAc) (hv:RV p m r c) (hm:m≤1000000) (k:Nat) (hk:k<m):
  CtQ AC 103 [.slice p m cap,.int .i64 (k:Int)] [c] (.int .i64 (aCl r k:Int)):=by
 have hl:=hv.1
 obtain⟨b,off,cs,T,fz,rfl,rfl,_,ab⟩:=(RV.rw hv).pos aAr oM
 have hg:∀j,j<m→cs[off+j*5+1]? =some (.int .i64 (at5 r j).c1):=fun j hj=>ab j 1 _ _ (aCd oM) rfl
 have q0:=hg k hk
 have ek:((k:Int)+1).toNat=k+1:=oM
 by_cases h1:k+1<m
 ·have q1:=hg (k+1) h1
  by_cases h2:(at5 r (k+1)).c1=(at5 r k).c1
  ·have hb:aCl r k=k+1:=by unfold aCl;rw[if_pos ⟨oM,h2⟩]
   have ac:((aCl r k:Nat):Int)=(k:Int)+1:=oM
   rw[ac]
   refine Ct.go Tryz.func103 Tryz.ntmps103 fun w0=> ?_
   repeat(refine sv ?_;intros)
   (refine Dn.post (Hr:=[[(b,aBs cs T fz)]]) Tryz.results103 (hR:= ?_);exact⟨rfl,rfl⟩)
  ·have hb:aCl r k=aFc r k:=by unfold aCl;rw[if_neg (fun h=>h2 h.2)]
   rw[hb]
   refine Ct.go Tryz.func103 Tryz.ntmps103 fun w0=> ?_
   repeat(refine sv ?_;intros)
   refine G.loop (X:=Int) (fun z=>0≤z∧z<(m:Int)∧aFc r z.toNat=aFc r k) (fun z=>[(1,.int .i64 z),(0,.slice (some ⟨b,off,none⟩) m cap)])
    (fun _=>[[(b,aBs cs T fz)]]) (fun z=>z.toNat) (k:Int) ⟨oM,oM,by rw[AR]⟩ (body:= ?_)
   rintro z ⟨z0,zm,hz⟩
   obtain⟨j,rfl⟩:∃j:Nat,z=(j:Int):=⟨z.toNat,oM⟩
   have ej:((j:Int)).toNat=j:=AR j
   rw[ej] at hz
   cases j with
   |zero=>
    have hh:aFc r k=0:=by rw[←hz];rfl
    repeat(refine sv ?_;intros)
    (refine Dn.post (Hr:=[[(b,aBs cs T fz)]]) Tryz.results103 (hR:= ?_);exact⟨congrArg (Value.int .i64) oM,rfl⟩)
   |succ j=>
    have w0:=hg (j+1) oM
    have w1:=hg j oM
    have aa:(((j+1:Nat):Int)-1).toNat=j:=oM
    have ad:((j+1:Nat):Int)-1=(j:Int):=oM
    by_cases h3:(at5 r j).c1=(at5 r (j+1)).c1
    ·have hs:aFc r (j+1)=aFc r j:=by rw[aFc,if_pos h3]
     repeat(refine sv ?_;intros)
     refine Dn.round (((j+1:Nat):Int)-1) ⟨oM,oM,by rw[aa,←hz,hs]⟩ oM
    ·have hs:aFc r (j+1)=j+1:=by rw[aFc,if_neg h3]
     repeat(refine sv ?_;intros)
     (refine Dn.post (Hr:=[[(b,aBs cs T fz)]]) Tryz.results103 (hR:= ?_);exact⟨congrArg (Value.int .i64) oM,rfl⟩)
 ·have hb:aCl r k=aFc r k:=by unfold aCl;rw[if_neg (fun h=>h1 oM)]
  rw[hb]
  refine Ct.go Tryz.func103 Tryz.ntmps103 fun w0=> ?_
  repeat(refine sv ?_;intros)
  refine G.loop (X:=Int) (fun z=>0≤z∧z<(m:Int)∧aFc r z.toNat=aFc r k) (fun z=>[(1,.int .i64 z),(0,.slice (some ⟨b,off,none⟩) m cap)])
   (fun _=>[[(b,aBs cs T fz)]]) (fun z=>z.toNat) (k:Int) ⟨oM,oM,by rw[AR]⟩ (body:= ?_)
  rintro z ⟨z0,zm,hz⟩
  obtain⟨j,rfl⟩:∃j:Nat,z=(j:Int):=⟨z.toNat,oM⟩
  have ej:((j:Int)).toNat=j:=AR j
  rw[ej] at hz
  cases j with
  |zero=>
   have hh:aFc r k=0:=by rw[←hz];rfl
   repeat(refine sv ?_;intros)
   (refine Dn.post (Hr:=[[(b,aBs cs T fz)]]) Tryz.results103 (hR:= ?_);exact⟨congrArg (Value.int .i64) oM,rfl⟩)
  |succ j=>
   have w0:=hg (j+1) oM
   have w1:=hg j oM
   have aa:(((j+1:Nat):Int)-1).toNat=j:=oM
   have ad:((j+1:Nat):Int)-1=(j:Int):=oM
   by_cases h3:(at5 r j).c1=(at5 r (j+1)).c1
   ·have hs:aFc r (j+1)=aFc r j:=by rw[aFc,if_pos h3]
    repeat(refine sv ?_;intros)
    refine Dn.round (((j+1:Nat):Int)-1) ⟨oM,oM,by rw[aa,←hz,hs]⟩ oM
   ·have hs:aFc r (j+1)=j+1:=by rw[aFc,if_neg h3]
    repeat(refine sv ?_;intros)
    (refine Dn.post (Hr:=[[(b,aBs cs T fz)]]) Tryz.results103 (hR:= ?_);exact⟨congrArg (Value.int .i64) oM,rfl⟩)
def itF (f:Nat→Nat):Nat→Nat→Nat
 |0,x=>x
 |n+1,x=>f (itF f n x)
theorem aBx {m:Nat} {f:Nat→Nat} (hf:∀k,k<m→f k<m) {i:Nat} (hi:i<m):∀n,itF f n i<m
 |0=>hi
 |n+1=>hf _ (aBx hf hi n)
theorem aIs (f:Nat→Nat) (b x:Nat):∀a,itF f (a+b) x=itF f a (itF f b x)
 |0=>by rw[Nat.zero_add];rfl
 |a+1=>by rw[Nat.succ_add];show f _=f _;rw[aIs f b x a]
theorem aTr {m:Nat} {f:Nat→Nat} (hf:∀k,k<m→f k<m) (hj:∀a b,a<m→b<m→f a=f b→a=b) {x y:Nat} (hx:x<m) (hy:y<m):∀n,itF f n x=itF f n y→x=y
 |0,h=>h
 |n+1,h=>aTr hf hj hx hy n (hj _ _ (aBx hf hx n) (aBx hf hy n) h)
theorem aFo {g:Nat→Nat}:∀{n:Nat},¬((BH n).map g).Nodup→∃a b,a<b∧b<n∧g a=g b
 |0,h=>(h oA15).elim
 |n+1,h=>by
  rw[D8,AX,B8] at h
  by_cases h1:((BH n).map g).Nodup
  ·by_cases h2:g n∈(BH n).map g
   ·obtain⟨a,ha,he⟩:=AU.1 h2
    exact⟨a,n,A6.1 ha,Nat.lt_succ_self n,he⟩
   ·refine(h ⟨h1,by simp,?_⟩).elim
    intro x hx y hy e
    simp only[AZ,D7,AT] at hy
    subst hy;subst e;exact h2 hx
  ·obtain⟨a,b,h1,h2,h3⟩:=aFo h1
   exact⟨a,b,h1,Nat.lt_succ_of_lt h2,h3⟩
theorem aZx {m:Nat} {f:Nat→Nat} (hf:∀k,k<m→f k<m) (hj:∀a b,a<m→b<m→f a=f b→a=b) {i:Nat} (hi:i<m):∃P,0<P∧P≤m∧itF f P i=i:=by
 have hn:¬((BH (m+1)).map fun n=>itF f n i).Nodup:=by
  intro h
  have:=h.length_le_of_subset (l₂:=BH m) (by
   intro x hx
   obtain⟨n,_,rfl⟩:=AU.1 hx
   exact A6.2 (aBx hf hi n))
  simp at this
  omega
 obtain⟨a,b,h1,h2,h3⟩:=aFo hn
 refine⟨b-a,oM,oM,?_⟩
 have h4:b=a+(b-a):=oM
 rw[h4,aIs] at h3
 exact(aTr hf hj hi (aBx hf hi _) a h3).symm
def perF (f:Nat→Nat) (m i:Nat):Nat:=((BH m).find? fun n=>itF f (n+1) i==i).getD 0+1
theorem bJp {m:Nat} {f:Nat→Nat} {i:Nat} (h:∃P,0<P∧P≤m∧itF f P i=i):0<perF f m i∧perF f m i≤m∧itF f (perF f m i) i=i∧∀n,0<n→n<perF f m i→itF f n i≠i:=by
 obtain⟨P,h0,hP,hi⟩:=h
 unfold perF
 cases hf:(BH m).find? fun n=>itF f (n+1) i==i with
 |none=>
  rw[EE] at hf
  refine(hf (P-1) (A6.2 oM) ?_).elim
  rw[show P-1+1=P by omega,hi];simp
 |some q=>
  rw[List.find?_range_eq_some] at hf
  obtain⟨h1,h2,h3⟩:=hf
  rw[A6] at h2
  refine⟨Nat.succ_pos _,h2,by simpa using h1,?_⟩
  intro n hn hq he
  have:=h3 (n-1) (by simp only[Option.getD_some] at hq;omega)
  rw[show n-1+1=n by omega,he] at this
  simp at this
theorem bCn {r:List T5} {k:Nat} (h:k<r.length):at5 r k∈r:=A3 (aCd h)
theorem aTs {r:List T5} {t:T5} (h:t∈r):∃k,k<r.length∧at5 r k=t:=by
 obtain⟨k,hk,rfl⟩:=CG.1 h
 exact⟨k,hk,BD ((aCd hk).symm.trans (AE hk))⟩
theorem bJq {r:List T5} (hs:Sa r) {i j:Nat} (aa:i<j) (hj:j<r.length):aFv (at5 r j) (at5 r i)=false:=by
 have h1:=aCd (Nat.lt_trans aa hj)
 have h2:=aCd hj
 rw[AK] at h1 h2
 obtain⟨_,h1⟩:=h1
 obtain⟨_,h2⟩:=h2
 rw[←h1,←h2]
 exact BJ.1 hs i j _ _ aa
theorem aTt {r:List T5} (hs:Sa r) {i j:Nat} (aa:i≤j) (hj:j<r.length):(at5 r i).c1≤(at5 r j).c1:=by
 rcases Nat.eq_or_lt_of_le aa with rfl|h
 ·exact Int.le_refl _
 ·have h1:=bJq hs h hj
  have h2:¬(aFv (at5 r j) (at5 r i)=true):=by rw[h1];decide
  rw[aIr] at h2
  omega
theorem aSc (r:List T5):∀k,(at5 r (aFc r k)).c1=(at5 r k).c1
 |0=>rfl
 |k+1=>by
  unfold aFc
  split
  next h=>rw[aSc r k,h]
  next=>rfl
theorem aMn (r:List T5):∀{k j:Nat},aFc r k=j+1→(at5 r j).c1≠(at5 r (j+1)).c1
 |0,j,h=>by unfold aFc at h;omega
 |k+1,j,h=>by
  unfold aFc at h
  split at h
  next=>exact aMn r h
  next hne=>
        obtain rfl:k=j:=by omega
        exact hne
theorem aIt (r:List T5) (k:Nat):(at5 r (aCl r k)).c1=(at5 r k).c1:=by
 unfold aCl;split
 next h=>exact h.2
 next=>exact aSc r k
theorem aZy {r:List T5} (hs:Sa r) {a b:Nat} (ha:a<r.length) (hb:b<r.length) (h:aCl r a=aCl r b):a=b:=by
 have hc:(at5 r a).c1=(at5 r b).c1:=by rw[←aIt r a,←aIt r b,h]
 unfold aCl at h
 split at h
 next h1=>
  split at h
  next h2=>omega
  next h2=>exact absurd h1.2.symm (aMn r h.symm)
 next h1=>
  split at h
  next h2=>exact absurd h2.2.symm (aMn r h)
  next h2=>
   rcases CJ a b with h3|h3|h3
   ·have e1:=aTt hs (show a≤a+1 by omega) (show a+1<r.length by omega)
    have e2:=aTt hs (show a+1≤b from h3) hb
    exact absurd ⟨oM,oM⟩ h1
   ·exact h3
   ·have e1:=aTt hs (show b≤b+1 by omega) (show b+1<r.length by omega)
    have e2:=aTt hs (show b+1≤a from h3) ha
    exact absurd ⟨oM,oM⟩ h2
def aBo (r:List T5) (k:Nat):Nat:=((BH r.length).find? fun i=>decide (i≠k∧(at5 r i).c0.tdiv 2=(at5 r k).c0.tdiv 2)).getD k
theorem aCm {r:List T5} {k:Nat} (h:k<r.length):aBo r k<r.length:=by
 unfold aBo
 cases hf:(BH r.length).find? fun i=>decide (i≠k∧(at5 r i).c0.tdiv 2=(at5 r k).c0.tdiv 2) with
 |none=>exact h
 |some q=>exact A6.1 (DJ hf)
structure aIc (a f r:List T5):Prop where
 perm:r.Perm (aMm a f)
 sa:Sa r
 nd:(f.map (·.c0)).Nodup
 pos:∀t∈f,0≤t.c0
def aFw (x:Int):Int:=if x%2=0 then x+1 else x-1
theorem aLi:∀{f:List T5},(f.map (·.c0)).Nodup→∀(a:List T5),((aMm a f).map (·.c0)).Nodup
 |[],_,_=>by simp[aMm]
 |t::f,h,a=>by
  rw[AZ,CB] at h
  have ih:=aLi h.2 a
  have hm:∀x∈aMm a f,∃e∈f,x.c0=2*e.c0∨x.c0=2*e.c0+1:=by
   intro x hx
   obtain⟨e,he,hx⟩:=B9.1 hx
   refine⟨e,he,?_⟩
   simp only[aNj,AM,B6,or_false] at hx
   rcases hx with rfl|rfl
   ·exact .inl rfl
   ·exact .inr rfl
  have aa:∀e∈f,e.c0≠t.c0:=fun e he hq=>h.1 (AU.2 ⟨e,he,hq⟩)
  unfold aMm at ih hm⊢
  rw[A8,AX,B8]
  refine⟨by simp[aNj];omega,ih,?_⟩
  intro x hx y hy e
  subst e
  obtain⟨z,hz,ab⟩:=AU.1 hy
  obtain⟨e,he,h1⟩:=hm z hz
  have:=aa e he
  simp only[aNj,AZ,D7,AM,B6,or_false] at hx
  omega
namespace aIc
variable {a f r:List T5}
theorem edge (A:aIc a f r) {k:Nat} (h:k<r.length):∃e∈f,at5 r k=⟨2*e.c0,e.c1,e.c2,(at5 a e.c1.toNat).c1,0⟩∨at5 r k=⟨2*e.c0+1,e.c2,e.c1,(at5 a e.c1.toNat).c1,0⟩:=by
 obtain⟨e,he,hx⟩:=B9.1 (A.perm.mem_iff.1 (bCn h))
 refine⟨e,he,?_⟩
 simpa only[aNj,AM,B6,or_false] using hx
theorem arc (A:aIc a f r) {e t:T5} (he:e∈f) (ht:t∈aNj a e):∃k,k<r.length∧at5 r k=t:=aTs (A.perm.mem_iff.2 (B9.2 ⟨e,he,ht⟩))
theorem num (A:aIc a f r) {i j:Nat} (hi:i<r.length) (hj:j<r.length) (h:(at5 r i).c0=(at5 r j).c0):i=j:=by
 have hn:(r.map (·.c0)).Nodup:=(A.perm.map _).nodup_iff.2 (aLi A.nd a)
 have h1:=aCd hi
 have h2:=aCd hj
 rw[AK] at h1 h2
 obtain⟨_,h1⟩:=h1
 obtain⟨_,h2⟩:=h2
 refine(List.getElem_inj (h₀:=by simpa using hi) (h₁:=by simpa using hj) hn).1 ?_
 rw[List.getElem_map,List.getElem_map,h1,h2,h]
theorem bro (A:aIc a f r) {k:Nat} (h:k<r.length):(at5 r (aBo r k))=⟨aFw (at5 r k).c0,(at5 r k).c2,(at5 r k).c1,(at5 r k).c3,0⟩:=by
 obtain⟨e,he,hk⟩:=A.edge h
 have an:=A.pos e he
 have ac:∀x:Int,0≤x→x.tdiv 2=x/2:=fun x hx=>CE hx
 have ab:∀{j:Nat},j<r.length→0≤(at5 r j).c0:=by
  intro j hj
  obtain⟨e',aj,ad⟩:=A.edge hj
  have:=A.pos e' aj
  rcases ad with ad|ad<;>rw[ad]<;>dsimp only<;>omega
 obtain⟨j,hj,aa⟩:∃j,j<r.length∧at5 r j=⟨aFw (at5 r k).c0,(at5 r k).c2,(at5 r k).c1,(at5 r k).c3,0⟩:=by
  rcases hk with hk|hk
  ·obtain⟨j,hj,aa⟩:=A.arc he (t:=⟨2*e.c0+1,e.c2,e.c1,(at5 a e.c1.toNat).c1,0⟩) (by simp[aNj])
   refine⟨j,hj,?_⟩
   have:aFw (2*e.c0)=2*e.c0+1:=by unfold aFw;rw[if_pos oM]
   rw[aa,hk];dsimp only;rw[this]
  ·obtain⟨j,hj,aa⟩:=A.arc he (t:=⟨2*e.c0,e.c1,e.c2,(at5 a e.c1.toNat).c1,0⟩) (by simp[aNj])
   refine⟨j,hj,?_⟩
   have:aFw (2*e.c0+1)=2*e.c0:=by unfold aFw;rw[if_neg oM];omega
   rw[aa,hk];dsimp only;rw[this]
 have ae:(at5 r j).c0=aFw (at5 r k).c0:=by rw[aa]
 have ah:=ab h
 have ak:=ab hj
 have al:j≠k:=by rintro rfl;unfold aFw at ae;split at ae<;>omega
 have ai:(at5 r j).c0.tdiv 2=(at5 r k).c0.tdiv 2:=by
  rw[ac _ ah,ac _ ak,ae];unfold aFw;split<;>omega
 have ag:∀i,i<r.length→i≠k→(at5 r i).c0.tdiv 2=(at5 r k).c0.tdiv 2→i=j:=by
  intro i hi am hd
  rw[ac _ ah,ac _ (ab hi)] at hd
  refine A.num hi hj ?_
  have hn:(at5 r i).c0≠(at5 r k).c0:=fun hq=>am (A.num hi h hq)
  rw[ae];unfold aFw;split<;>omega
 have hb:aBo r k=j:=by
  unfold aBo
  cases hf:(BH r.length).find? fun i=>decide (i≠k∧(at5 r i).c0.tdiv 2=(at5 r k).c0.tdiv 2) with
  |none=>
   rw[EE] at hf
   exact(hf j (A6.2 hj) (decide_eq_true ⟨al,ai⟩)).elim
  |some q=>
   have h1:=List.find?_some hf
   have h2:=A6.1 (DJ hf)
   have h3:=of_decide_eq_true h1
   exact ag q h2 h3.1 h3.2
 rw[hb,aa]
theorem bro_inj (A:aIc a f r) {x y:Nat} (hx:x<r.length) (hy:y<r.length) (h:aBo r x=aBo r y):x=y:=by
 have h1:=A.bro hx
 have h2:=A.bro hy
 rw[h,h2] at h1
 have h3:=congrArg T5.c0 h1
 dsimp only at h3
 refine A.num hx hy ?_
 unfold aFw at h3
 split at h3<;>split at h3<;>omega
end aIc
def aDh (r:List T5) (k:Nat):Nat:=aCl r (aBo r k)
theorem aBi {r:List T5} (k:Nat) (h:k<r.length):aDh r k<r.length:=bEy (aCm h)
theorem aIc.sig_inj {a f r:List T5} (A:aIc a f r) (x y:Nat) (hx:x<r.length) (hy:y<r.length) (h:aDh r x=aDh r y):x=y:=A.bro_inj hx hy (aZy A.sa (aCm hx) (aCm hy) h)
theorem aIc.sig_from {a f r:List T5} (A:aIc a f r) {k:Nat} (h:k<r.length):(at5 r (aDh r k)).c1=(at5 r k).c2:=by
 unfold aDh;rw[aIt,A.bro h]
def aGo (r:List T5) (i:Nat):Nat:=perF (aDh r) r.length i
def aDi (r:List T5) (i n:Nat):T5:={at5 r (itF (aDh r) n i) with c4:=(n:Int)}
def aKm (r:List T5) (i:Nat):List T5:=(BH (aGo r i)).map (aDi r i)
def aEs (r:List T5) (i:Nat):Bool:=decide ((at5 r i).c1=(at5 r i).c3∧(0<i→(at5 r (i-1)).c1≠(at5 r i).c1))
def aCn (r:List T5) (n:Nat):List T5:=(BH n).flatMap fun i=>if aEs r i then aKm r i else[]
def aFk (r:List T5):List T5:=aCn r r.length
theorem aGp (r:List T5) (n:Nat):aCn r (n+1)=aCn r n++if aEs r n then aKm r n else[]:=by
 unfold aCn;rw[D8,CF];simp
theorem aIc.per {a f r:List T5} (A:aIc a f r) {i:Nat} (h:i<r.length):0<aGo r i∧aGo r i≤r.length∧itF (aDh r) (aGo r i) i=i∧∀n,0<n→n<aGo r i→itF (aDh r) n i≠i:=bJp (aZx aBi A.sig_inj h)
theorem aPz (r:List T5) (i:Nat):(aKm r i).length=aGo r i:=by unfold aKm;simp
theorem aIc.to_len {a f r:List T5} (A:aIc a f r):∀{n:Nat},n≤r.length→(aCn r n).length≤n*r.length
 |0,_=>by simp[aCn]
 |n+1,h=>by
  have ih:=A.to_len (n:=n) oM
  have hp:=(A.per (i:=n) oM).2.1
  rw[aGp,AF,BG]
  split
  ·rw[aPz];omega
  ·simp only[List.length_nil];omega
def aQx (r:List T5) (n:Nat):List Nat:=(BH n).flatMap fun i=>if aEs r i then(BH (aGo r i)).map fun k=>itF (aDh r) k i else[]
theorem aMo (r:List T5) (n:Nat):aQx r (n+1)=aQx r n++if aEs r n then(BH (aGo r n)).map (fun k=>itF (aDh r) k n) else[]:=by
 unfold aQx;rw[D8,CF];simp
theorem aXh (r:List T5):∀n,(aQx r n).length=(aCn r n).length
 |0=>rfl
 |n+1=>by
  rw[aMo,aGp,AF,AF,aXh r n]
  split
  ·rw[aPz];simp
  ·rfl
theorem aQa {r:List T5} {n x:Nat} (h:x∈aQx r n):∃i,i<n∧aEs r i=true∧∃k,k<aGo r i∧x=itF (aDh r) k i:=by
 obtain⟨i,hi,hx⟩:=B9.1 h
 split at hx
 next hr=>
  obtain⟨k,hk,rfl⟩:=AU.1 hx
  exact⟨i,A6.1 hi,hr,k,A6.1 hk,rfl⟩
 next=>simp at hx
namespace aIc
variable {a f r:List T5}
theorem lab (A:aIc a f r) (hl:∀e∈f,(at5 a e.c1.toNat).c1=(at5 a e.c2.toNat).c1) {k:Nat} (h:k<r.length):(at5 r k).c3=(at5 a (at5 r k).c1.toNat).c1:=by
 obtain⟨e,he,hk|hk⟩:=A.edge h
 ·rw[hk]
 ·rw[hk];exact hl e he
theorem sig_lab (A:aIc a f r) (hl:∀e∈f,(at5 a e.c1.toNat).c1=(at5 a e.c2.toNat).c1) {k:Nat} (h:k<r.length):(at5 r (aDh r k)).c3=(at5 r k).c3:=by
 have h1:=A.lab hl (aBi k h)
 have h2:=A.lab hl (aCm h)
 rw[A.bro h] at h2
 dsimp only at h2
 rw[h1,A.sig_from h,h2]
theorem it_lab (A:aIc a f r) (hl:∀e∈f,(at5 a e.c1.toNat).c1=(at5 a e.c2.toNat).c1) {i:Nat} (h:i<r.length):∀k,(at5 r (itF (aDh r) k i)).c3=(at5 r i).c3
 |0=>rfl
 |k+1=>by
  show(at5 r (aDh r (itF (aDh r) k i))).c3=_
  rw[A.sig_lab hl (aBx aBi h k),A.it_lab hl h k]
theorem root_uniq (A:aIc a f r) {i j:Nat} (ac:i<j) (hj:j<r.length) (aa:aEs r i=true) (ab:aEs r j=true):(at5 r i).c3≠(at5 r j).c3:=by
 intro h
 unfold aEs at aa ab
 obtain⟨i1,_⟩:=of_decide_eq_true aa
 obtain⟨j1,j2⟩:=of_decide_eq_true ab
 have e1:=aTt A.sa (show i≤j-1 by omega) oM
 have e2:=aTt A.sa (show j-1≤j by omega) hj
 exact j2 oM oM
theorem idx_nodup (A:aIc a f r) (hl:∀e∈f,(at5 a e.c1.toNat).c1=(at5 a e.c2.toNat).c1):∀{n:Nat},n≤r.length→(aQx r n).Nodup
 |0,_=>by simp[aQx]
 |n+1,h=>by
  rw[aMo,B8]
  obtain⟨P0,P1,P2,P3⟩:=A.per (i:=n) oM
  refine⟨A.idx_nodup hl oM,?_,?_⟩
  ·split
   ·by_cases hn:((BH (aGo r n)).map fun k=>itF (aDh r) k n).Nodup
    ·exact hn
    ·obtain⟨x,y,h1,h2,h3⟩:=aFo hn
     rw[show y=x+(y-x) by omega,aIs] at h3
     have:=aTr (f:=aDh r) aBi A.sig_inj (show n<r.length by omega) (aBx aBi oM _) x h3
     exact(P3 (y-x) oM oM this.symm).elim
   ·simp
  ·intro x hx y hy aa
   subst aa
   split at hy
   next hr=>
    obtain⟨k,_,hk⟩:=AU.1 hy
    obtain⟨i,hi,ab,k2,_,ac⟩:=aQa hx
    refine A.root_uniq hi oM ab hr ?_
    rw[←A.it_lab hl (show i<r.length by omega) k2,←ac,←hk,A.it_lab hl oM k]
   next=>simp at hy
theorem tours_len (A:aIc a f r) (hl:∀e∈f,(at5 a e.c1.toNat).c1=(at5 a e.c2.toNat).c1):(aFk r).length≤r.length:=by
 unfold aFk
 rw[←aXh]
 have:=(A.idx_nodup hl (AG _)).length_le_of_subset (l₂:=BH r.length) (by
  intro x hx
  obtain⟨i,hi,_,k,_,rfl⟩:=aQa hx
  exact A6.2 (aBx aBi hi k))
 simpa using this
end aIc
theorem aZz {r:List T5} {k i:Nat} (hi:i<r.length) (aa:∀j,j<i→¬(j≠k∧(at5 r j).c0.tdiv 2=(at5 r k).c0.tdiv 2)) (h:i≠k∧(at5 r i).c0.tdiv 2=(at5 r k).c0.tdiv 2):aBo r k=i:=by
 unfold aBo
 have:(BH r.length).find? (fun i=>decide (i≠k∧(at5 r i).c0.tdiv 2=(at5 r k).c0.tdiv 2))=some i:=by
  rw[List.find?_range_eq_some]
  refine⟨decide_eq_true h,A6.2 hi,fun j hj=> ?_⟩
  have h2:=aa j hj
  rw[Bool.not_eq_true']
  exact decide_eq_false h2
 rw[this];rfl
theorem bAa {r:List T5} {k:Nat} (aa:∀j,j<r.length→¬(j≠k∧(at5 r j).c0.tdiv 2=(at5 r k).c0.tdiv 2)):aBo r k=k:=by
 unfold aBo
 have:(BH r.length).find? (fun i=>decide (i≠k∧(at5 r i).c0.tdiv 2=(at5 r k).c0.tdiv 2))=none:=by
  rw[EE]
  intro j hj hd
  exact aa j (A6.1 hj) (of_decide_eq_true hd)
 rw[this];rfl
theorem bAb (p:Option Addr) (m cap:Nat) (r:List T5) (c:aAc) (hv:RV p m r c) (hm:m≤1000000) (hc:∀t∈r,0≤t.c0∧t.c0≤4398046511104) (k:Nat) (hk:k<m):
  CtQ AC 104 [.slice p m cap,.int .i64 (k:Int)] [c] (.int .i64 (aBo r k:Int)):=by
 have hl:=hv.1
 obtain⟨b,off,cs,T,fz,rfl,rfl,_,ad⟩:=(RV.rw hv).pos aAr oM
 have hg:∀j,j<m→cs[off+j*5]? =some (.int .i64 (at5 r j).c0):=fun j hj=>by have:=ad j 0 _ _ (aCd oM) rfl;rwa[CD] at this
 have hd:∀j,j<m→AJ .i64 ((at5 r j).c0.tdiv 2)=(at5 r j).c0.tdiv 2:=fun j hj=>by
  have:=hc _ (bCn (r:=r) (k:=j) oM)
  have e:=CE (b:=2) this.1
  rw[e];exact aAd oM
 have q0:=hg k hk
 have d0:=hd k hk
 refine Ct.go Tryz.func104 Tryz.ntmps104 fun w0=> ?_
 repeat(refine sv ?_;intros)
 refine G.loop (X:=Nat) (fun i=>i≤m∧∀j,j<i→¬(j≠k∧(at5 r j).c0.tdiv 2=(at5 r k).c0.tdiv 2)) (fun i=>[(5,.int .i64 (i:Int)),(1,.int .i64 (k:Int)),(0,.slice (some ⟨b,off,none⟩) m cap)])
  (fun _=>[[(b,aBs cs T fz)]]) (fun i=>m-i) 0 ⟨AS _,fun j hj=>absurd hj (Nat.not_lt_zero j)⟩ (body:= ?_)
 rintro i ⟨hi,aa⟩
 by_cases ab:i<m
 ·have q1:=hg i ab
  have d1:=hd i ab
  by_cases ae:i=k
  ·subst ae
   repeat(refine sv ?_;intros)
   refine Dn.round (i+1) ⟨ab,fun j hj h=> ?_⟩ oM
   by_cases ac:j=i
   ·exact h.1 ac
   ·exact aa j oM h
  ·by_cases hq:(at5 r i).c0.tdiv 2=(at5 r k).c0.tdiv 2
   ·have hb:=aZz oM aa ⟨ae,hq⟩
    repeat(refine sv ?_;intros)
    (refine Dn.post (Hr:=[[(b,aBs cs T fz)]]) Tryz.results104 (hR:= ?_);exact⟨congrArg (Value.int .i64) oM,rfl⟩)
   ·repeat(refine sv ?_;intros)
    refine Dn.round (i+1) ⟨ab,fun j hj h=> ?_⟩ oM
    by_cases ac:j=i
    ·subst ac;exact hq h.2
    ·exact aa j oM h
 ·obtain rfl:i=m:=by omega
  have hb:=bAa (r:=r) (k:=k) (fun j hj=>aa j oM)
  repeat(refine sv ?_;intros)
  (refine Dn.post (Hr:=[[(b,aBs cs T fz)]]) Tryz.results104 (hR:= ?_);exact⟨congrArg (Value.int .i64) oM,rfl⟩)
structure ToX where
 i:Nat
 n:Nat
 p:Option Addr
 cap:Nat
 ch:aAc
structure TuX where
 k:Nat
 n:Nat
 p:Option Addr
 cap:Nat
 ch:aAc
theorem aIc.c0le {a f r:List T5} (A:aIc a f r) {M:Int} (hf:∀t∈f,t.c0≤M):∀t∈r,0≤t.c0∧t.c0≤2*M+1:=by
 intro t ht
 obtain⟨k,hk,rfl⟩:=aTs ht
 obtain⟨e,he,h⟩:=A.edge hk
 have h1:=hf e he
 have h2:=A.pos e he
 rcases h with h|h<;>rw[h]<;>dsimp only<;>omega
theorem bJr (pa:Option Addr) (na ka:Nat) (a:List T5) (ca:aAc) (au:RV pa na a ca) (pf:Option Addr) (nf kf:Nat) (f:List T5) (cf:aAc) (aw:RV pf nf f cf) (hn:nf≤1000) (aq:na≤1000000)
  (hf:∀t∈f,0≤t.c0∧t.c0≤1099511627776∧0≤t.c1∧t.c1<na) (av:(f.map (·.c0)).Nodup):
  Ct AC 44 [.slice pa na ka,.slice pf nf kf] [ca,cf] fun v H'=>∃p n cap c r,v= .slice p n cap∧H'=[ca,cf,c]∧n=(aFk r).length∧Vec 33 5 p n cap (flat (aFk r)) c∧aIc a f r∧r.length=2*nf:=by
 have be:=eQ3
 have hA:=bNk pa na ka a ca au pf nf kf f cf aw oM aq hf
 refine Ct.go Tryz.func44 Tryz.ntmps44 fun w0=> ?_
 repeat(first|(refine sv ?_;intros)|refine cq hBr ?_|refine cq hBe ?_)
 refine R.call (hct:=hA) (h:= ?_)
 rintro _ _ ⟨q,ab,qc,r,rfl,rfl,hQ,hp,hs⟩
 try dsimp only[AA,AB]
 have A:aIc a f r:=⟨hp,hs,av,fun t ht=>(hf t ht).1⟩
 have ae:RV q (2*nf) r qc:=RV.vec hQ
 have ai:r.length=2*nf:=ae.1
 have ax:=A.c0le (M:=1099511627776) (fun t ht=>(hf t ht).2.1)
 clear hQ
 repeat(first|(refine sv ?_;intros)|refine cq hBr ?_|refine cq hBe ?_)
 refine G.loop (X:=ToX) (fun x=>x.i≤2*nf∧x.n=(aCn r x.i).length∧Vec 33 5 x.p x.n x.cap (flat (aCn r x.i)) x.ch)
  (fun x=>[(7,.int .i64 (x.i:Int)),(6,.slice x.p x.n x.cap),(5,.slice q (2*nf) ab)])
  (fun x=>[ca,cf,qc,x.ch]) (fun x=>2*nf-x.i) ⟨0,0,none,0,[]⟩ ⟨AS _,rfl,Vec.nil _ _⟩ oA3 oA0 ?_
 rintro⟨i,n,p,cap,ch⟩ ⟨hi,ad,hV⟩
 dsimp only at hi ad hV⊢
 by_cases ag:i<2*nf
 rotate_left
 ·obtain rfl:i=2*nf:=by omega
  have aj:aCn r (2*nf)=aFk r:=by unfold aFk;rw[ai]
  rw[aj] at hV ad
  repeat(first|(refine sv ?_;intros)|refine cq hBr ?_|refine cq hBe ?_)
  (refine Dn.post (Hr:=[ca,cf,ch]) Tryz.results44 (hR:= ?_);exact⟨p,n,cap,ch,r,rfl,rfl,ad,hV,A,ai⟩)
 obtain⟨b,off,cs,T,fz,rfl,rfl,ak,al⟩:=(RV.rw ae).pos aAr oM
 have hg:∀j k v,j<2*nf→(aAk (at5 r j))[k]? =some v→cs[off+j*5+k]? =some v:=fun j k v hj hv=>al j k _ _ (aCd oM) hv
 have q1:=hg i 1 _ ag rfl
 have q3:=hg i 3 _ ag rfl
 have ac:=aGp r i
 have ay:=A.to_len (n:=i) oM
 have bf:n≤4000000:=by
  have h1:i*r.length≤2000*2000:=Nat.mul_le_mul oM oM
  omega
 by_cases aa:aEs r i=true
 ·rw[if_pos aa] at ac
  have hr:=aa
  unfold aEs at hr
  obtain⟨bg,az⟩:=of_decide_eq_true hr
  have hq:i=0∨(0<i∧cs[off+(i-1)*5+1]? =some (.int .i64 (at5 r (i-1)).c1)∧(at5 r (i-1)).c1≠(at5 r i).c1):=by
   rcases Nat.eq_zero_or_pos i with hz|hz
   ·exact .inl hz
   ·exact .inr ⟨hz,hg (i-1) 1 _ oM rfl,az hz⟩
  obtain⟨P0,P1,P2,P3⟩:=A.per (i:=i) oM
  have a0:aGo r i=(aKm r i).length:=(aPz r i).symm
  have hBr:∀k,k<2*nf→CtQ AC 104 [.slice (some ⟨b,off,none⟩) (2*nf) ab,.int .i64 (k:Int)] [[(b,aBs cs T fz)]] (.int .i64 (aBo r k:Int)):=fun k hk=>bAb _ _ _ r _ ae oM (fun t ht=>by have:=ax t ht;omega) k hk
  have hBe:∀k,k<2*nf→CtQ AC 103 [.slice (some ⟨b,off,none⟩) (2*nf) ab,.int .i64 (k:Int)] [[(b,aBs cs T fz)]] (.int .i64 (aCl r k:Int)):=fun k hk=>bEz _ _ _ r _ ae oM k hk
  have a1:∀k,k<2*nf→aBo r k<2*nf:=fun k hk=>by have:=aCm (r:=r) (k:=k) oM;omega
  have a2:∀k,itF (aDh r) k i<2*nf:=fun k=>by have:=aBx (f:=aDh r) (m:=r.length) aBi (i:=i) oM k;omega
  have ei:((i:Int)-1).toNat=i-1:=oM
  obtain hz|⟨hz,a3,a4⟩:=hq
  all_goals
   repeat(first|(refine sv ?_;intros)|refine cq hBr ?_|refine cq hBe ?_)
   refine G.loop (X:=TuX) (fun x=>x.k≤aGo r i∧x.n=n+x.k∧Vec 33 5 x.p x.n x.cap (flat (aCn r i++(BH x.k).map (aDi r i))) x.ch)
    (fun x=>[(9,.int .i64 (x.k:Int)),(8,.int .i64 (itF (aDh r) x.k i:Int)),(7,.int .i64 (i:Int)),(6,.slice x.p x.n x.cap),(5,.slice (some ⟨b,off,none⟩) (2*nf) ab)])
    (fun x=>[ca,cf,[(b,aBs cs T fz)],x.ch]) (fun x=>aGo r i-x.k) ⟨0,n,p,cap,ch⟩ ⟨AS _,rfl,by simpa using hV⟩ (body:= ?_)
   rintro⟨k,m,p2,am,a5⟩ ⟨hk,hm,an⟩
   dsimp only at hk hm an⊢
   by_cases ao:k<aGo r i
   ·have a6:k=0∨(0<k∧itF (aDh r) k i≠i):=by
     rcases Nat.eq_zero_or_pos k with h|h
     ·exact .inl h
     ·exact .inr ⟨h,P3 k h ao⟩
    have a7:=a2 k
    have bh:=a1 _ a7
    have c5:(cs.drop (off+itF (aDh r) k i*5)).take 5=[.int .i64 (at5 r (itF (aDh r) k i)).c0,.int .i64 (at5 r (itF (aDh r) k i)).c1,.int .i64 (at5 r (itF (aDh r) k i)).c2,.int .i64 (at5 r (itF (aDh r) k i)).c3,.int .i64 (at5 r (itF (aDh r) k i)).c4]:=ak _ _ (aCd oM)
    have bi:m+1≤maxLen:=by simp only[maxLen];omega
    have a8:flat (aCn r i++(BH (k+1)).map (aDi r i))=flat (aCn r i++(BH k).map (aDi r i))++[.int .i64 (at5 r (itF (aDh r) k i)).c0,.int .i64 (at5 r (itF (aDh r) k i)).c1,.int .i64 (at5 r (itF (aDh r) k i)).c2,.int .i64 (at5 r (itF (aDh r) k i)).c3,.int .i64 (k:Int)]:=by
     rw[D8,AX,←AP,flat_append];rfl
    obtain ap|⟨ap,bk⟩:=a6
    all_goals
     repeat(first|(refine sv ?_;intros)|refine cq hBr ?_|refine cq hBe ?_)
     rename_i p' ah c' a9
     have bc:Vec 33 5 p' (m+1) ah (flat (aCn r i++(BH (k+1)).map (aDi r i))) c':=by rw[a8];exact a9
     refine Dn.round ⟨k+1,m+1,p',ah,c'⟩ ⟨ao,oD,bc⟩ oD
   ·obtain rfl:k=aGo r i:=by omega
    have ap:aGo r i≠0:=oM
    subst hm
    repeat(first|(refine sv ?_;intros)|refine cq hBr ?_|refine cq hBe ?_)
    refine Dn.round ⟨i+1,n+aGo r i,p2,am,a5⟩ ⟨ag,by dsimp only;rw[ac,AF,←a0,←ad],?_⟩ oD
    dsimp only
    rw[ac]
    exact an
 ·rw[if_neg aa,AQ] at ac
  have hr:¬((at5 r i).c1=(at5 r i).c3∧(0<i→(at5 r (i-1)).c1≠(at5 r i).c1)):=fun h=>aa (by unfold aEs;exact decide_eq_true h)
  have hq:(at5 r i).c1≠(at5 r i).c3∨((at5 r i).c1=(at5 r i).c3∧0<i∧cs[off+(i-1)*5+1]? =some (.int .i64 (at5 r (i-1)).c1)∧(at5 r (i-1)).c1=(at5 r i).c1):=by
   by_cases h1:(at5 r i).c1=(at5 r i).c3
   ·refine .inr ⟨h1,?_⟩
    rcases Nat.eq_zero_or_pos i with hz|hz
    ·exact(hr ⟨h1,fun h=>by omega⟩).elim
    ·refine⟨hz,hg (i-1) 1 _ oM rfl,?_⟩
     by_cases h2:(at5 r (i-1)).c1=(at5 r i).c1
     ·exact h2
     ·exact(hr ⟨h1,fun _=>h2⟩).elim
   ·exact .inl h1
  have ei:((i:Int)-1).toNat=i-1:=oM
  obtain hz|⟨h0,hz,a3,a4⟩:=hq
  all_goals
   repeat(first|(refine sv ?_;intros)|refine cq hBr ?_|refine cq hBe ?_)
   refine Dn.round ⟨i+1,n,p,cap,ch⟩ ⟨ag,by dsimp only;rw[ac,ad],by dsimp only;rw[ac];exact hV⟩ oD
end Go.Proofs.YtaofijjjheiknaaGreat
namespace Go.Gr
variable {g:Nat→Ed} {S S':Nat→Prop}
def Mn (g:Nat→Ed) (S:Nat→Prop) (v:Nat):Prop:=∀u,u<v→¬Cn g S u v
theorem aTu {p:Nat→Prop}:∀{n:Nat},p n→∃m,m≤n∧p m∧∀k,k<m→¬p k:=by
 intro n
 induction n using Nat.strongRecOn with
 |ind n ih=>
  intro h
  by_cases hx:∃k,k<n∧p k
  ·obtain⟨k,hk,aa⟩:=hx
   obtain⟨m,hm,h1,h2⟩:=ih k hk aa
   exact⟨m,oM,h1,h2⟩
  ·exact⟨n,Nat.le_refl _,h,fun k hk hp=>hx ⟨k,hk,hp⟩⟩
theorem Mn.of (g:Nat→Ed) (S:Nat→Prop) (x:Nat):∃m,m≤x∧Cn g S m x∧Mn g S m:=by
 obtain⟨m,h1,h2,h3⟩:=aTu (p:=fun u=>Cn g S u x) (n:=x) (.refl x)
 exact⟨m,h1,h2,fun u hu hc=>h3 u hu (hc.trans h2)⟩
theorem Mn.uniq {a b:Nat} (ha:Mn g S a) (hb:Mn g S b) (h:Cn g S a b):a=b:=by
 rcases Nat.lt_trichotomy a b with h1|h1|h1
 ·exact(hb a h1 h).elim
 ·exact h1
 ·exact(ha b h1 h.symm).elim
theorem Mn.le {a b:Nat} (ha:Mn g S a) (h:Cn g S a b):a≤b:=by
 rcases Nat.lt_or_ge b a with h1|h1
 ·exact(ha b h1 h.symm).elim
 ·exact h1
theorem bFa {p q:Nat→Bool} {c:Nat}:∀{n:Nat},(∀v,v<n→(q v=true↔p v=true∧v≠c))→p c=true→c<n→((List.range n).filter q).length+1=((List.range n).filter p).length:=by
 have same:∀{n:Nat},(∀v,v<n→(q v=true↔p v=true∧v≠c))→n≤c→((List.range n).filter q).length=((List.range n).filter p).length:=by
  intro n h hn
  congr 1
  refine List.filter_congr fun v hv=> ?_
  have h1:=List.mem_range.1 hv
  have h2:=h v h1
  rw[Bool.eq_iff_iff,h2]
  exact⟨fun h=>h.1,fun h=>⟨h,oM⟩⟩
 intro n
 induction n with
 |zero=>intro _ _ h;omega
 |succ n ih=>
  intro h hc hn
  rw[List.range_succ,List.filter_append,List.filter_append,List.length_append,List.length_append]
  by_cases aa:c=n
  ·subst aa
   have h1:=same (n:=c) (fun v hv=>h v oM) (Nat.le_refl _)
   have h2:q c=false:=by
    cases hq:q c with
    |false=>rfl
    |true=>exact((h c oM).1 hq).2.elim rfl
   simp[h1,h2,hc]
  ·have h1:=ih (fun v hv=>h v oM) hc oM
   have h2:q n=p n:=by
    rw[Bool.eq_iff_iff,h n oM]
    exact⟨fun h=>h.1,fun h=>⟨h,fun e=>aa e.symm⟩⟩
   have h3:(List.filter q [n]).length=(List.filter p [n]).length:=by simp[List.filter_cons,h2]
   omega
theorem aIu {n:Nat} (mb:Nat→Nat→Bool) (kb:Nat→Bool) (hm:∀k v,mb k v=true↔Mn g (fun j=>j<k) v) (hk:∀i,kb i=true↔¬Cn g (fun j=>j<i) (g i).1 (g i).2):
  ∀m,(∀j,j<m→(g j).1<n∧(g j).2<n)→((List.range n).filter (mb m)).length+((List.range m).filter kb).length=n
 |0,_=>by
  have:(List.range n).filter (mb 0)=List.range n:=by
   rw[List.filter_eq_self]
   intro v _
   rw[hm]
   intro u hu hc
   have:u=v:=hc.stay (X:=fun y=>u=y) rfl (fun j hj=>absurd hj (Nat.not_lt_zero j))
   omega
  rw[this];simp
 |m+1,hg=>by
  have ih:=aIu mb kb hm hk m (fun j hj=>hg j oM)
  rw[List.range_succ,List.filter_append,List.length_append]
  have aa:∀{a b},Cn g (fun j=>j<m) a b→Cn g (fun j=>j<m+1) a b:=fun h=>h.mono fun i hi=>Nat.lt_succ_of_lt hi
  have ac:∀{a b},Cn g (fun j=>j<m+1) a b→Cn g (fun j=>j<m∨j=m) a b:=fun h=>h.mono fun i hi=>by
   rcases Nat.lt_or_ge i m with h|h
   ·exact .inl h
   ·exact .inr oM
  by_cases hc:Cn g (fun j=>j<m) (g m).1 (g m).2
  ·have ad:kb m=false:=by
    cases h:kb m with
    |false=>rfl
    |true=>exact((hk m).1 h hc).elim
   have ae:(List.range n).filter (mb (m+1))=(List.range n).filter (mb m):=by
    refine List.filter_congr fun v _=> ?_
    rw[Bool.eq_iff_iff,hm,hm]
    refine⟨fun h u hu hx=>h u hu (aa hx),fun h u hu hx=> ?_⟩
    refine h u hu ((ac hx).sub fun i hi=> ?_)
    rcases hi with hi|rfl
    ·exact Cn.edge hi
    ·exact hc
   rw[ae];simp[ad];omega
  ·have ad:kb m=true:=(hk m).2 hc
   obtain⟨a,a1,a2,a3⟩:=Mn.of g (fun j=>j<m) (g m).1
   obtain⟨b,b1,b2,b3⟩:=Mn.of g (fun j=>j<m) (g m).2
   have ai:a≠b:=by rintro rfl;exact hc (a2.symm.trans b2)
   have aj:=hg m oM
   have ab:Cn g (fun j=>j<m+1) a b:=((aa a2).trans (Cn.edge (Nat.lt_succ_self m))).trans (aa b2).symm
   have ag:∀v,Mn g (fun j=>j<m+1) v↔Mn g (fun j=>j<m) v∧v≠max a b:=by
    intro v
    constructor
    ·intro h
     refine⟨fun u hu hx=>h u hu (aa hx),?_⟩
     rintro rfl
     rcases Nat.lt_or_ge a b with h1|h1
     ·refine h a oM ?_
      rw[Nat.max_eq_right oM];exact ab
     ·refine h b oM ?_
      rw[Nat.max_eq_left oM];exact ab.symm
    ·rintro⟨h,ah⟩ u hu hx
     rcases(ac hx).add with h1|⟨h1,h2⟩|⟨h1,h2⟩
     ·exact h u hu h1
     ·have e1:=Mn.uniq b3 h (b2.trans h2)
      have e2:=Mn.le a3 (a2.trans h1.symm)
      refine ah ?_
      subst e1
      omega
     ·have e1:=Mn.uniq a3 h (a2.trans h2)
      have e2:=Mn.le b3 (b2.trans h1.symm)
      refine ah ?_
      subst e1
      omega
   have h1:=bFa (p:=mb m) (q:=mb (m+1)) (c:=max a b) (n:=n) (fun v _=>by rw[hm,hm,ag]) (by
    rw[hm]
    rcases Nat.lt_or_ge a b with h|h
    ·rw[Nat.max_eq_right oM];exact b3
    ·rw[Nat.max_eq_left oM];exact a3) oM
   simp[ad]
   omega
end Go.Gr
namespace Go.Proofs.YtaofijjjheiknaaGreat
open Go.SL Go.Tup
def edT (es:List IE):List T5:=(BH es.length).map fun (i:Nat)=>⟨(i:Int),(es.getD i (0,0)).1,(es.getD i (0,0)).2,0,0⟩
theorem aMp (es:List IE):(edT es).length=es.length:=by unfold edT;simp
theorem aQb {es:List IE} {i:Nat} {e:IE} (h:es[i]? =some e):(edT es)[i]? =some ⟨(i:Int),e.1,e.2,0,0⟩:=by
 have hi:=(AK.1 h).1
 unfold edT
 rw[BU,DY hi]
 simp only[Option.map_some,AN,h,Option.getD_some]
theorem bNl {es:List IE} {i:Nat} {e:IE} (h:es[i]? =some e):(edT es).take (i+1)=(edT es).take i++[⟨(i:Int),e.1,e.2,0,0⟩]:=by
 rw[BP,aQb h];rfl
theorem aTv {es:List IE} {t:T5} (h:t∈edT es):∃(i:Nat) (e:IE),es[i]? =some e∧t=⟨(i:Int),e.1,e.2,0,0⟩:=by
 obtain⟨i,hi⟩:=D5.1 h
 have hl:=(AK.1 hi).1
 rw[aMp] at hl
 have he:es[i]? =some es[i]:=AE hl
 rw[aQb he] at hi
 exact⟨i,es[i],he,(BD hi).symm⟩
theorem aSd (es:List IE):(edT es).Pairwise fun a b=>a.c0<b.c0:=by
 unfold edT
 rw[BC]
 exact(List.pairwise_lt_range).imp fun h=>by dsimp only;omega
open Go.Gr
theorem bNm {sl:List T5} {fl:List Bool} {e:T5} (h:e∈aHw sl fl):∃t∈sl,e=⟨t.c0,t.c1,t.c2,0,0⟩:=by
 unfold aHw at h
 obtain⟨⟨t,b⟩,hx,he⟩:=List.mem_filterMap.1 h
 refine⟨t,(List.of_mem_zip hx).1,?_⟩
 dsimp only at he
 split at he
 ·exact(BD he).symm
 ·simp at he
theorem aJm:∀(sl:List T5) (fl:List Bool),((aHw sl fl).map (·.c0)).Sublist (sl.map (·.c0))
 |[],_=>by simp[aHw]
 |t::sl,[]=>by simp[aHw]
 |t::sl,b::fl=>by
  have ih:=aJm sl fl
  unfold aHw at ih⊢
  cases b
  ·rw[List.zip_cons_cons,List.filterMap_cons]
   exact ih.cons _
  ·rw[List.zip_cons_cons,List.filterMap_cons]
   exact ih.cons_cons _
theorem bNn (sl:List T5) (fl:List Bool):(aHw sl fl).length≤sl.length:=by
 have:=(aJm sl fl).length_le
 simpa using this
theorem edT_ok {N:Nat} {es:List IE} (hf:∀e∈es,inE N e):aIq N (edT es):=by
 refine⟨fun t ht=> ?_,(aSd es).imp fun h=>by omega⟩
 obtain⟨i,e,he,rfl⟩:=aTv ht
 have:=hf e (A3 he)
 unfold inE at this
 unfold aIp
 dsimp only
 omega
theorem bFb {es:List IE} {sl:List T5} (hp:sl.Perm (edT es)) (hs:Sn sl):sl=edT es:=by
 refine List.Perm.eq_of_pairwise (le:=fun (a b:T5)=>a.c0≤b.c0) ?_ hs ((aSd es).imp fun h=>by omega) hp
 intro a b ha hb h1 h2
 obtain⟨i,e,he,rfl⟩:=aTv (hp.mem_iff.1 ha)
 obtain⟨j,e',aa,rfl⟩:=aTv hb
 dsimp only at h1 h2
 obtain rfl:i=j:=by omega
 rw[he] at aa
 rw[BD aa]
theorem bJs (es:List IE):(edT es).map eOf=es:=by
 refine CH fun i=> ?_
 rw[BU]
 cases h:es[i]? with
 |none=>rw[BL (by rw[aMp];exact List.getElem?_eq_none_iff.1 h)];rfl
 |some e=>rw[aQb h];rfl
structure aAh (N:Nat) (es:List IE) (lab:List Int) (fl:List Bool) (r b:List T5):Prop where
 labs:aKl (gE es) (fun i=>i<es.length) N (-1) lab
 fors:aJl es fl
 arcs:aIc (aAy lab) (aHw (edT es) fl) r
 len:r.length=2*(aHw (edT es) fl).length
 tours:b=aFk r
theorem aTq.parts {N:Nat} {es:List IE} {a f:List T5} (h:aTq N (edT es) a f):∃lab fl,a=aAy lab∧f=aHw (edT es) fl∧aKl (gE es) (fun i=>i<es.length) N (-1) lab∧aJl es fl:=by
 obtain⟨sl,fl,lab,h1,h2,h3,h4,rfl,rfl⟩:=h
 obtain rfl:=bFb h1 h2
 rw[bJs,aMp] at h3
 rw[bJs] at h4
 exact⟨lab,fl,rfl,rfl,h3,h4⟩
open Go.Spc Go.Srt
theorem aKl.root {g:Nat→Ed} {S:Nat→Prop} {N:Nat} {lab:List Int} (h:aKl g S N (-1) lab) {v:Nat} (hv:v<N):∃x:Nat,lab[v]? =some (x:Int)∧x≤v∧Cn g S v x∧Mn g S x:=by
 obtain⟨x,h1,h2,h3,h4⟩:=h.at_ v hv oM
 exact⟨x,h1,h3,h2,fun u hu hc=>by have:=h4 u (h2.trans hc.symm);omega⟩
theorem aKl.same {g:Nat→Ed} {S:Nat→Prop} {N:Nat} {lab:List Int} (h:aKl g S N (-1) lab) {u v:Nat} (hu:u<N) (hv:v<N) (hc:Cn g S u v):lab[u]? =lab[v]? :=by
 obtain⟨x,x1,_,x2,x3⟩:=h.root hu
 obtain⟨y,y1,_,y2,y3⟩:=h.root hv
 rw[x1,y1,x3.uniq y3 (x2.symm.trans (hc.trans y2))]
theorem aKl.mem {g:Nat→Ed} {S:Nat→Prop} {N:Nat} {lab:List Int} (h:aKl g S N (-1) lab) {x:Int} (hx:x∈lab):∃v:Nat,x=(v:Int)∧v<N∧Mn g S v:=by
 obtain⟨i,hi,rfl⟩:=CG.1 hx
 obtain⟨v,h1,h2,_,h3⟩:=h.root (v:=i) (by rw[←h.len];exact hi)
 rw[AE hi] at h1
 have:=h.len
 exact⟨v,BD h1,oM,h3⟩
theorem aMq {lab:List Int} {v:Nat} {x:Int} (h:lab[v]? =some x):(at5 (aAy lab) v).c1=x:=by
 obtain⟨hv,rfl⟩:=AK.1 h
 unfold at5 aAy
 rw[AN,BU,DY hv]
 simp[AN,hv]
namespace aAh
variable {N:Nat} {es:List IE} {lab:List Int} {fl:List Bool} {r b:List T5}
theorem edge (h:aAh N es lab fl r b) {e:T5} (he:e∈aHw (edT es) fl):∃(i:Nat) (d:IE),es[i]? =some d∧fl[i]? =some true∧e=⟨(i:Int),d.1,d.2,0,0⟩:=by
 unfold aHw at he
 obtain⟨⟨t,c⟩,hx,he⟩:=List.mem_filterMap.1 he
 dsimp only at he
 split at he
 next hc=>
  subst hc
  obtain⟨i,hi⟩:=D5.1 hx
  rw[List.getElem?_zip_eq_some] at hi
  have aa:=(AK.1 hi.1).1
  rw[aMp] at aa
  have hd:es[i]? =some es[i]:=AE aa
  have h1:=hi.1
  rw[aQb hd] at h1
  have h2:=BD h1
  subst h2
  exact⟨i,es[i],hd,hi.2,(BD he).symm⟩
 next=>simp at he
theorem hl (h:aAh N es lab fl r b) (hf:∀e∈es,inE N e):∀e∈aHw (edT es) fl,(at5 (aAy lab) e.c1.toNat).c1=(at5 (aAy lab) e.c2.toNat).c1:=by
 intro e he
 obtain⟨i,d,hd,_,rfl⟩:=h.edge he
 have h1:=hf d (A3 hd)
 unfold inE at h1
 have hg:gE es i=(d.1.toNat,d.2.toNat):=by unfold gE;rw[hd]
 have hc:Cn (gE es) (fun i=>i<es.length) d.1.toNat d.2.toNat:=by
  have:=Cn.edge (g:=gE es) (S:=fun i=>i<es.length) (i:=i) (AK.1 hd).1
  rwa[hg] at this
 have h2:=h.labs.same (u:=d.1.toNat) (v:=d.2.toNat) oM oM hc
 obtain⟨x,hx,_⟩:=h.labs.root (v:=d.1.toNat) oM
 show(at5 (aAy lab) d.1.toNat).c1=(at5 (aAy lab) d.2.toNat).c1
 rw[aMq hx,aMq (h2▸hx)]
theorem tours_len (h:aAh N es lab fl r b) (hf:∀e∈es,inE N e):b.length≤2*(aHw (edT es) fl).length:=by
 rw[h.tours,←h.len]
 exact h.arcs.tours_len (h.hl hf)
theorem gE_lt (hf:∀e∈es,inE N e):∀j,j<es.length→(gE es j).1<N∧(gE es j).2<N:=by
 intro j hj
 have hd:es[j]? =some es[j]:=AE hj
 have h1:=hf _ (A3 hd)
 unfold inE at h1
 unfold gE;rw[hd];dsimp only
 omega
theorem for_le (h:aAh N es lab fl r b) (hf:∀e∈es,inE N e):(aHw (edT es) fl).length≤N:=by
 classical
 have hc:=aIu (g:=gE es) (n:=N) (fun k v=>decide (Mn (gE es) (fun j=>j<k) v)) (fun i=>decide (¬Cn (gE es) (fun j=>j<i) (gE es i).1 (gE es i).2)) (fun k v=>decide_eq_true_iff) (fun i=>decide_eq_true_iff) es.length (gE_lt hf)
 have h2:((aHw (edT es) fl).map fun t=>t.c0.toNat).length≤((BH es.length).filter fun i=>decide (¬Cn (gE es) (fun j=>j<i) (gE es i).1 (gE es i).2)).length:=by
  refine List.Nodup.length_le_of_subset ?_ ?_
  ·refine List.Pairwise.map _ (R:=fun (a b:T5)=>a.c0<b.c0∧0≤a.c0) (fun a b h=>by omega) ?_
   have hp:(aHw (edT es) fl).Pairwise fun a b=>a.c0<b.c0:=by
    have:=List.Pairwise.sublist (R:=fun x y:Int=>x<y) (aJm (edT es) fl) (by rw[BC];exact aSd es)
    rwa[BC] at this
   refine D6 ?_ hp
   intro a b ha _ aa
   obtain⟨i,d,_,_,rfl⟩:=h.edge ha
   exact⟨aa,oD⟩
  ·intro v hv
   obtain⟨t,ht,rfl⟩:=AU.1 hv
   obtain⟨i,d,hd,ab,rfl⟩:=h.edge ht
   have hi:=(AK.1 hd).1
   have hk:=(h.fors.2 i true ab).1 rfl
   refine B0.2 ⟨A6.2 oD,decide_eq_true ?_⟩
   dsimp only
   rw[AR]
   exact fun ac=>hk.2 (ac.mono fun j hj=>⟨oM,hj⟩)
 rw[AY] at h2
 omega
end aAh
def dv0 (s n:Nat):Dv:=⟨s,n,fun _=>none,-1,0⟩
def wk0 (s n room:Nat):Wk:=⟨dv0 s n,⟨room,0,0,[]⟩,⟨n,[(0,n)]⟩,[]⟩
theorem bNo (s n:Nat) (hs:8≤s∧s≤256) (hb:n≤1000000):Ct AC 46 [.int .i64 (s:Int),.int .i64 (n:Int)] [] fun v H'=>
  ∃bd c,v= .tuple #[pv bd,.int .i64 0]∧H'=[c]∧aEc bd (dv0 s n) c:=by
 refine Ct.convP (aVl s n hs hb) (.refl _) ?_
 rintro v H' ⟨bd,bl,bn,rfl,rfl⟩
 refine⟨_,⟨bd,_,rfl,rfl,bl,bn,none,0,0,[],[],[],0,[],rfl,Vec.nil _ _,by simp,fun _=>rfl,AS _,hs,hb,by simp[dv0]⟩,by simp[aEn,chs,dv0]⟩
theorem bFc (bd ba bs:Nat):Ct AC 47 [pv bd,pv ba,pv bs] [] fun v H'=>∃bw,v=pv bw∧H'=[aAi bw bd ba bs]:=by
 refine Ct.go Tryz.func47 Tryz.ntmps47 fun w0=> ?_
 repeat(refine st ?_;intros)
 rename_i bw
 (refine Dn.post (Hr:=[[(bw,row [pv bd,pv ba,pv bs] 105)]]) Tryz.results47 (hR:= ?_);exact⟨bw,rfl,rfl⟩)
theorem live0 (n:Nat) (h:1≤n):aVo ⟨n,[(0,n)]⟩ [] where
 fit:=by simp
 apart:=CI
 free:=fun x hx=>by simp[inF];exact hx
 sum:=by simp[aBg]
theorem wc0 {bd ba bs s n room:Nat} {cd ca cs:aAc} (hn:1≤n) (h1:aEc bd (dv0 s n) cd) (h2:aEo ba ⟨room,0,0,[]⟩ ca) (h3:aEx bs ⟨n,[(0,n)]⟩ cs):Wc bd ba bs (wk0 s n room) cd ca cs:=
 ⟨h1,h2.ar,h3,rfl,live0 n hn⟩
theorem bAc (bd:Nat) (δ:Dv) (c:aAc) (h:aEc bd δ c) (n:Int) (hn: -1≤n∧n≤1000000000):Ct AC 35 [pv bd,.int .i64 n] [c] fun v H'=>
  ∃c',v= .tuple #[]∧H'=[c']∧aEc bd {δ with fault:=n} c':=by
 obtain⟨bl,bn,pp,np,cp,xs,pc,es,ck,aa,rfl,h1,h2,h3,h4,h5,h6,h7⟩:=h
 refine Ct.convP (H2:=[[(bd,row (aBl δ.size δ.blocks bl bn pp np cp δ.fault δ.acts) 116)],(bn,aEn aMx (es.map (Db.ent δ.size)) ck)::(pc++(chs es++aa))])
  (R2:=fun v H'=>v= .tuple #[]∧H'=[[(bd,row (aBl δ.size δ.blocks bl bn pp np cp n δ.acts) 116)],(bn,aEn aMx (es.map (Db.ent δ.size)) ck)::(pc++(chs es++aa))]) ?_ oA15 ?_
 ·unfold aBl
  have ab:max n (-1)=n:=oM
  refine Ct.go Tryz.func35 Tryz.ntmps35 fun w0=> ?_
  repeat(refine st ?_;intros)
  rw[ab]
  (refine Dn.postEnd (Hr:=[[(bd,row [.int .i64 (δ.size:Int),.int .i64 (δ.blocks:Int),.map (some bl),.map (some bn),.slice pp np cp,.int .i64 (-1),.int .i64 n,.bool false,.int .i64 (δ.acts:Int)] 116)],(bn,aEn aMx (es.map (Db.ent δ.size)) ck)::(pc++(chs es++aa))]) Tryz.results35 (hR:= ?_);exact⟨rfl,rfl⟩)
 ·rintro v H' ⟨rfl,rfl⟩
  exact⟨_,⟨_,rfl,rfl,bl,bn,pp,np,cp,xs,pc,es,ck,aa,rfl,h1,h2,h3,h4,h5,h6,hn⟩,by simp⟩
theorem big0 (s n room:Nat):big (wk0 s n room).σ.free=n:=by simp[wk0,big]
theorem okT_mk {k:Nat} {t:T5} (h:∀c∈t.toList,aAv c) (hz:aNi k t=true):okT k t:=⟨h,fun i hi=>by
 by_cases h5:i<5
 ·exact aPm.1 hz i h5 hi
 ·obtain⟨j,rfl⟩:∃j,i=j+5:=⟨i-5,oM⟩
  rfl⟩
theorem Lay_k (bw bd ba bs:Nat) (W:Wk) (cd ca cs:aAc) (h:Wc bd ba bs W cd ca cs) (k:Nat) (h1:1≤k) (h2:k≤5) (p:Option Addr) (n cap:Nat) (ts:List T5) (c:aAc) (hv:RV p n ts c) (hn:n≤100000000) (ab:∀t∈ts,okT k t)
  (hr:W.δ.size≤W.α.room-W.α.used) (hf:W.δ.fault= -1) (ac:W.δ.acts≤100000000000) (hb:aAb W.δ.size k n≤big W.σ.free):
  Ct AC 73 [pv bw,.int .i64 (k:Int),.slice p n cap] [aAi bw bd ba bs,cd,ca,cs,c] fun v H'=>
   ∃cd' ca' cs' W' f,v= .tuple #[flv f,.int .i64 0]∧H'=[aAi bw bd ba bs,cd',ca',cs',c]∧Wc bd ba bs W' cd' ca' cs'∧Ev W W' (aAb W.δ.size k n) (aAb W.δ.size k n)∧aBv W.live W W'∧W'.α.gs.Perm W.α.gs∧
    W'.live.Perm (aCj f W.live)∧f.width=k∧f.count=n∧f.blocks=aAb W.δ.size k n∧aAq W'.δ.disk W.δ.size [f.ext] f ts:=by
 refine(Lay_ct bw bd ba bs W cd ca cs h k h1 h2 p n cap ts c hv hn ab hr hf ac).mono ?_
 rintro v H' ⟨cd',ca',cs',W',rfl,hW,hE,hK,hg,⟨_,f,rfl,hl,hw,hc,aa⟩|⟨hx,_⟩⟩
 ·exact⟨cd',ca',cs',W',f,rfl,rfl,hW,hE,hK,hg,by rw[hl];exact .refl _,hw,hc,by rw[aa.blk,hw,hc],aa⟩
 ·omega
theorem aBm.stay {W W':Wk} {x:Fl×List T5} (h:aBm W x) (hs:W'.δ.size=W.δ.size) (hk:aBv W.live W W') (hl:∀e∈W.live,e∈W'.live):aBm W' x:=by
 obtain⟨Lv,h1,h2⟩:=h
 refine⟨Lv,?_,fun e he=>hl e (h2 e he)⟩
 rw[hs]
 exact h1.keep fun y ⟨e,he,h3⟩=>hk y ⟨e,h2 e he,h3⟩
theorem aBm.new {W':Wk} {s:Nat} {f:Fl} {ts:List T5} {l:List Ext} (h:aAq W'.δ.disk s [f.ext] f ts) (hs:W'.δ.size=s) (hl:W'.live.Perm (aCj f l)):aBm W' (f,ts):=by
 subst hs
 exact fo_sub h hl
theorem bCo {f:Fl} {l l':List Ext} (h:l'.Perm (aCj f l)):∀e∈l,e∈l':=fun _ he=>h.mem_iff.2 (aKy he)
theorem bFd {p:Jp} {W W':Wk} {A T:Nat} {ts:List T5} {f:Fl} {e:Int} (h:aEh p W W' A T none ts f e) (hf:W.δ.fault= -1):e=0∧W'.live.Perm (aCj f W.live)∧aAq W'.δ.disk W.δ.size [f.ext] f ts∧W'.δ.fault= -1:=by
 rcases h.res with⟨h1,_,h2,h3⟩|⟨_,_,_,⟨_,h1⟩|⟨m,h1,_⟩⟩
 ·exact⟨h1,h2,h3,h.fault hf⟩
 ·exact absurd hf h1
 ·cases h1
theorem bJt {r:List T5} {t:T5} (h:t∈aFk r):∃i n,i<r.length∧n<aGo r i∧t=aDi r i n:=by
 unfold aFk aCn at h
 obtain⟨i,hi,hx⟩:=B9.1 h
 split at hx
 ·unfold aKm at hx
  obtain⟨n,hn,rfl⟩:=AU.1 hx
  exact⟨i,n,A6.1 hi,A6.1 hn,rfl⟩
 ·simp at hx
theorem aTw (lab:List Int):(aAy lab).length=lab.length:=by unfold aAy;simp
theorem aQc {x:Int} (h0:0≤x) (h:x≤1000000):aAv x:=⟨oM,oM⟩
namespace aAh
variable {N:Nat} {es:List IE} {lab:List Int} {fl:List Bool} {r b:List T5}
theorem lab_ok (h:aAh N es lab fl r b) (hN:N≤1000000):∀t∈aAy lab,okT 2 t:=by
 intro t ht
 unfold aAy at ht
 obtain⟨v,hv,rfl⟩:=AU.1 ht
 have hv:=A6.1 hv
 have hl:=h.labs.len
 obtain⟨x,hx,aa,_⟩:=h.labs.root (v:=v) oM
 have:lab.getD v 0=(x:Int):=by rw[AN,hx];rfl
 rw[this]
 exact bEh (aQc oM oM) (aQc oM oM)
theorem arc_of (h:aAh N es lab fl r b) (hf:∀e∈es,inE N e) {k:Nat} (hk:k<r.length):∃(i:Nat) (d:IE) (x:Nat),es[i]? =some d∧fl[i]? =some true∧x<N∧lab[d.1.toNat]? =some (x:Int)∧
  (at5 r k=⟨2*(i:Int),d.1,d.2,(x:Int),0⟩∨at5 r k=⟨2*(i:Int)+1,d.2,d.1,(x:Int),0⟩):=by
 obtain⟨e,he,hx⟩:=h.arcs.edge hk
 obtain⟨i,d,hd,ab,rfl⟩:=h.edge he
 have h1:=hf d (A3 hd)
 unfold inE at h1
 obtain⟨x,aa,ac,_⟩:=h.labs.root (v:=d.1.toNat) oM
 refine⟨i,d,x,hd,ab,oM,aa,?_⟩
 rw[aMq aa] at hx
 exact hx
theorem tour_ok (h:aAh N es lab fl r b) (hf:∀e∈es,inE N e) (hN:N≤1000) (hm:es.length≤1000):∀t∈b,okT 5 t:=by
 intro t ht
 rw[h.tours] at ht
 obtain⟨i,n,hi,hn,rfl⟩:=bJt ht
 have hp:=(h.arcs.per hi).2.1
 have ab:=h.len
 have aa:=bNn (edT es) fl
 rw[aMp] at aa
 have hk:=aBx (f:=aDh r) aBi hi n
 unfold aDi
 obtain⟨j,d,x,hd,_,ac,_,hx⟩:=h.arc_of hf hk
 have hj:=(AK.1 hd).1
 have h1:=hf d (A3 hd)
 unfold inE at h1
 rcases hx with hx|hx<;>rw[hx]<;>exact okT5 (aQc oD oD) (aQc oD oD) (aQc oD oD) (aQc oD oD) (aQc oM oM)
theorem b_len (h:aAh N es lab fl r b) (hf:∀e∈es,inE N e) (hN:N≤1000000):b.length≤2*N:=by
 have h1:=h.tours_len hf
 have h2:=h.for_le hf
 omega
end aAh
def edx (r:List T5) (k:Nat):Nat:=((at5 r k).c0/2).toNat
def Fs (fl:List Bool) (i:Nat):Prop:=fl[i]? =some true
def Rch (r:List T5) (j k:Nat):Prop:=∃n,itF (aDh r) n j=k
theorem Rch.trans {r:List T5} {a b c:Nat} (h1:Rch r a b) (h2:Rch r b c):Rch r a c:=by
 obtain⟨n,rfl⟩:=h1
 obtain⟨m,rfl⟩:=h2
 exact⟨m+n,aIs ..⟩
theorem aXi {f:Nat→Nat} {P i:Nat} (h:itF f P i=i):∀n,itF f (n*P) i=i
 |0=>by rw[Nat.zero_mul];rfl
 |n+1=>by rw[BG,aIs,h,aXi h n]
theorem bSk {es:List IE} {fl:List Bool} {i:Nat} {d:IE} (hd:es[i]? =some d) (hf:fl[i]? =some true):(⟨(i:Int),d.1,d.2,0,0⟩:T5)∈aHw (edT es) fl:=by
 unfold aHw
 refine List.mem_filterMap.2 ⟨(⟨(i:Int),d.1,d.2,0,0⟩,true),?_,rfl⟩
 exact A3 (List.getElem?_zip_eq_some.2 ⟨aQb hd,hf⟩)
namespace aIc
variable {a f r:List T5}
theorem pos0 (A:aIc a f r) {k:Nat} (h:k<r.length):0≤(at5 r k).c0:=by
 obtain⟨e,he,hk⟩:=A.edge h
 have:=A.pos e he
 rcases hk with hk|hk<;>rw[hk]<;>dsimp only<;>omega
theorem bro_bro (A:aIc a f r) {k:Nat} (h:k<r.length):aBo r (aBo r k)=k:=by
 have h0:=A.pos0 h
 refine A.num (aCm (aCm h)) h ?_
 rw[A.bro (aCm h),A.bro h]
 dsimp only
 unfold aFw
 split<;>split<;>omega
theorem bro_ne (A:aIc a f r) {k:Nat} (h:k<r.length):aBo r k≠k:=by
 intro hq
 have h1:=congrArg T5.c0 (A.bro h)
 rw[hq] at h1
 dsimp only at h1
 unfold aFw at h1
 split at h1<;>omega
theorem edx_eq (A:aIc a f r) {j k:Nat} (hj:j<r.length) (hk:k<r.length) (h:edx r j=edx r k):j=k∨j=aBo r k:=by
 have h1:=A.pos0 hj
 have h2:=A.pos0 hk
 unfold edx at h
 by_cases he:(at5 r j).c0=(at5 r k).c0
 ·exact .inl (A.num hj hk he)
 ·refine .inr (A.num hj (aCm hk) ?_)
  rw[A.bro hk];dsimp only
  unfold aFw;split<;>omega
theorem symm (A:aIc a f r) {j k:Nat} (hj:j<r.length) (h:Rch r j k):Rch r k j:=by
 obtain⟨n,rfl⟩:=h
 obtain⟨P0,_,P2,_⟩:=A.per hj
 refine⟨n*aGo r j-n,?_⟩
 rw[←aIs,Nat.sub_add_cancel (Nat.le_mul_of_pos_right n P0),aXi P2]
theorem pos_of (A:aIc a f r) {i k:Nat} (hi:i<r.length) (h:Rch r i k):∃n,n<aGo r i∧itF (aDh r) n i=k:=by
 obtain⟨n,hn⟩:=h
 obtain⟨m,_,h2,h3⟩:=aTu (p:=fun n=>itF (aDh r) n i=k) hn
 obtain⟨P0,_,P2,_⟩:=A.per hi
 refine⟨m,?_,h2⟩
 rcases Nat.lt_or_ge m (aGo r i) with h|h
 ·exact h
 ·refine(h3 (m-aGo r i) oM ?_).elim
  rw[←h2]
  conv=>rhs;rw[show m=(m-aGo r i)+aGo r i by omega,aIs,P2]
theorem pos_inj (A:aIc a f r) {i m n:Nat} (hi:i<r.length) (hm:m<aGo r i) (hn:n<aGo r i) (h:itF (aDh r) m i=itF (aDh r) n i):m=n:=by
 obtain⟨_,_,_,P3⟩:=A.per hi
 have key:∀{x y:Nat},x<y→y<aGo r i→itF (aDh r) x i≠itF (aDh r) y i:=by
  intro x y h1 h2 h3
  rw[show y=x+(y-x) by omega,aIs] at h3
  have:=aTr (f:=aDh r) aBi A.sig_inj hi (aBx aBi hi _) x h3
  exact P3 (y-x) oM oM this.symm
 rcases CJ m n with h1|h1|h1
 ·exact(key h1 hn h).elim
 ·exact h1
 ·exact(key h1 hm h.symm).elim
end aIc
namespace aAh
variable {N:Nat} {es:List IE} {lab:List Int} {fl:List Bool} {r b:List T5}
theorem bridge (h:aAh N es lab fl r b) (i:Nat) (hi:Fs fl i):¬Cn (gE es) (fun j=>Fs fl j∧j≠i) (gE es i).1 (gE es i).2:=by
 intro hc
 have hk:=(h.fors.2 i true hi).1 rfl
 exact hk.bridge (hc.mono fun j hj=>⟨(h.fors.2 j true hj.1).1 rfl,hj.2⟩)
theorem arc_g (h:aAh N es lab fl r b) (hf:∀e∈es,inE N e) {k:Nat} (hk:k<r.length):Fs fl (edx r k)∧
  ((gE es (edx r k)).1=(at5 r k).c1.toNat∧(gE es (edx r k)).2=(at5 r k).c2.toNat∨(gE es (edx r k)).1=(at5 r k).c2.toNat∧(gE es (edx r k)).2=(at5 r k).c1.toNat)∧
  0≤(at5 r k).c1∧(at5 r k).c1<N∧0≤(at5 r k).c2∧(at5 r k).c2<N:=by
 obtain⟨i,d,x,hd,aa,_,_,hx⟩:=h.arc_of hf hk
 have h1:=hf d (A3 hd)
 unfold inE at h1
 have hg:gE es i=(d.1.toNat,d.2.toNat):=by unfold gE;rw[hd]
 unfold edx
 rcases hx with hx|hx
 ·have e1:((at5 r k).c0/2).toNat=i:=by rw[hx];dsimp only;omega
  rw[e1,hg,hx];dsimp only
  exact⟨aa,.inl ⟨rfl,rfl⟩,oM,oM,oM,oM⟩
 ·have e1:((at5 r k).c0/2).toNat=i:=by rw[hx];dsimp only;omega
  rw[e1,hg,hx];dsimp only
  exact⟨aa,.inr ⟨rfl,rfl⟩,oM,oM,oM,oM⟩
theorem rch_bro (h:aAh N es lab fl r b) (hf:∀e∈es,inE N e) {k:Nat} (hk:k<r.length):Rch r k (aBo r k):=by
 refine DI fun ab=> ?_
 obtain⟨P0,_,P2,P3⟩:=h.arcs.per hk
 have hw:∀n,n<aGo r k→Cn (gE es) (fun j=>Fs fl j∧j≠edx r k) (at5 r k).c2.toNat (at5 r (itF (aDh r) (n+1) k)).c1.toNat:=by
  intro n
  induction n with
  |zero=>
   intro _
   show Cn _ _ _ (at5 r (aDh r k)).c1.toNat
   rw[h.arcs.sig_from hk];exact .refl _
  |succ n ih=>
   intro hn
   have aa:itF (aDh r) (n+1) k<r.length:=aBx aBi hk _
   refine(ih oM).trans ?_
   show Cn _ _ _ (at5 r (aDh r (itF (aDh r) (n+1) k))).c1.toNat
   rw[h.arcs.sig_from aa]
   obtain⟨g1,g2,_⟩:=h.arc_g hf aa
   refine .one ⟨edx r (itF (aDh r) (n+1) k),⟨g1,fun hq=> ?_⟩,g2⟩
   rcases h.arcs.edx_eq aa hk hq with h1|h1
   ·exact P3 (n+1) oM oM h1
   ·exact ab ⟨n+1,h1⟩
 have h1:=hw (aGo r k-1) oM
 rw[show aGo r k-1+1=aGo r k by omega,P2] at h1
 obtain⟨g1,g2,_⟩:=h.arc_g hf hk
 rcases g2 with⟨g2,g3⟩|⟨g2,g3⟩
 ·exact h.bridge _ g1 (by rw[g2,g3];exact h1.symm)
 ·exact h.bridge _ g1 (by rw[g2,g3];exact h1)
theorem rch_behind (h:aAh N es lab fl r b) (hf:∀e∈es,inE N e) {k:Nat} (hk:k<r.length):Rch r k (aCl r k):=by
 refine(h.rch_bro hf hk).trans ⟨1,?_⟩
 show aCl r (aBo r (aBo r k))=_
 rw[h.arcs.bro_bro hk]
theorem rch_to (h:aAh N es lab fl r b) (hf:∀e∈es,inE N e) {k:Nat} (hk:k<r.length):∀m,k+m<r.length→(at5 r k).c1=(at5 r (k+m)).c1→Rch r k (k+m)
 |0,_,_=>⟨0,rfl⟩
 |m+1,hm,hc=>by
  have e1:=aTt h.arcs.sa (show k≤k+m by omega) oM
  have e2:=aTt h.arcs.sa (show k+m≤k+(m+1) by omega) hm
  refine(h.rch_to hf hk m oM oM).trans ?_
  have hb:=h.rch_behind hf (k:=k+m) oM
  have e3:aCl r (k+m)=k+m+1:=by unfold aCl;rw[if_pos ⟨oM,by rw[show k+m+1=k+(m+1) by omega];omega⟩]
  rw[e3] at hb
  exact hb
theorem rch_same (h:aAh N es lab fl r b) (hf:∀e∈es,inE N e) {j k:Nat} (hj:j<r.length) (hk:k<r.length) (hc:(at5 r j).c1=(at5 r k).c1):Rch r j k:=by
 rcases Nat.le_total j k with h1|h1
 ·have:=h.rch_to hf hj (k-j) oM (by rw[show j+(k-j)=k by omega];exact hc)
  rwa[show j+(k-j)=k by omega] at this
 ·have:=h.rch_to hf hk (j-k) oM (by rw[show k+(j-k)=j by omega];exact hc.symm)
  rw[show k+(j-k)=j by omega] at this
  exact h.arcs.symm hk this
theorem arc_at (h:aAh N es lab fl r b) (hf:∀e∈es,inE N e) {x y:Nat} (hj:Jn (gE es) (Fs fl) x y):∃k,k<r.length∧(at5 r k).c1=x∧(at5 r k).c2=y:=by
 obtain⟨i,hi,he⟩:=hj
 have aa:i<es.length:=by
  have:=(AK.1 hi).1
  rw[←h.fors.1];exact this
 have hd:es[i]? =some es[i]:=AE aa
 have h1:=hf _ (A3 hd)
 unfold inE at h1
 have hg:gE es i=(es[i].1.toNat,es[i].2.toNat):=by unfold gE;rw[hd]
 rw[hg] at he
 have hm:=bSk hd hi
 rcases he with⟨e1,e2⟩|⟨e1,e2⟩
 ·obtain⟨k,hk,hq⟩:=h.arcs.arc hm (t:=⟨2*(i:Int),es[i].1,es[i].2,(at5 (aAy lab) es[i].1.toNat).c1,0⟩) (by simp[aNj])
  exact⟨k,hk,by rw[hq];dsimp only at e1⊢;omega,by rw[hq];dsimp only at e2⊢;omega⟩
 ·obtain⟨k,hk,hq⟩:=h.arcs.arc hm (t:=⟨2*(i:Int)+1,es[i].2,es[i].1,(at5 (aAy lab) es[i].1.toNat).c1,0⟩) (by simp[aNj])
  exact⟨k,hk,by rw[hq];dsimp only at e2⊢;omega,by rw[hq];dsimp only at e1⊢;omega⟩
theorem rch_cn (h:aAh N es lab fl r b) (hf:∀e∈es,inE N e) {u x:Nat} (hc:Cn (gE es) (Fs fl) u x):∀{j k:Nat},j<r.length→k<r.length→(at5 r j).c1=u→(at5 r k).c1=x→Rch r j k:=by
 induction hc with
 |refl=>intro j k hj hk e1 e2;exact h.rch_same hf hj hk (e1.trans e2.symm)
 |step _ aa ih=>
  intro j k hj hk e1 e2
  obtain⟨m,hm,m1,m2⟩:=h.arc_at hf aa
  refine((ih hj hm e1 m1).trans (h.rch_bro hf hm)).trans (h.rch_same hf (aCm hm) hk ?_)
  rw[h.arcs.bro hm,e2];exact m2
theorem cn_f (h:aAh N es lab fl r b) {u x:Nat}:Cn (gE es) (fun i=>i<es.length) u x↔Cn (gE es) (Fs fl) u x:=by
 rw[Kr.conn]
 refine Cn.congr fun i=>⟨fun hk=> ?_,fun hk=>(h.fors.2 i true hk).1 rfl⟩
 have hi:i<fl.length:=by rw[h.fors.1];exact hk.1
 have:=(h.fors.2 i fl[i] (AE hi)).2 hk
 unfold Fs
 rw[AE hi,this]
theorem lab_at (h:aAh N es lab fl r b) (hf:∀e∈es,inE N e) {k:Nat} (hk:k<r.length):∃x:Nat,(at5 r k).c3=x∧x<N∧lab[(at5 r k).c1.toNat]? =some (x:Int)∧Cn (gE es) (Fs fl) (at5 r k).c1.toNat x∧lab[x]? =some (x:Int):=by
 obtain⟨_,_,c1,c2,_,_⟩:=h.arc_g hf hk
 obtain⟨x,h1,h2,h3,h4⟩:=h.labs.root (v:=(at5 r k).c1.toNat) oM
 have aa:x<N:=oM
 refine⟨x,?_,aa,h1,h.cn_f.1 h3,?_⟩
 ·rw[h.arcs.lab (h.hl hf) hk,aMq h1]
 ·rw[←h1];exact h.labs.same aa oM h3.symm
theorem root_of (h:aAh N es lab fl r b) (hf:∀e∈es,inE N e) {k:Nat} (hk:k<r.length):∃i,i<r.length∧aEs r i=true∧(at5 r i).c3=(at5 r k).c3∧Rch r i k:=by
 obtain⟨x,h1,h2,h3,h4,h5⟩:=h.lab_at hf hk
 obtain⟨_,_,c1,c2,_,_⟩:=h.arc_g hf hk
 have ab:∃k0,k0<r.length∧(at5 r k0).c1=x:=by
  generalize hu:(at5 r k).c1.toNat=u at h4
  cases h4 with
  |refl=>exact⟨k,hk,oM⟩
  |step _ hj=>
   obtain⟨m,hm,m1,m2⟩:=h.arc_at hf hj.symm
   exact⟨m,hm,m1⟩
 obtain⟨k0,ac,ad⟩:=ab
 obtain⟨i,i1,⟨i2,i3⟩,i4⟩:=aTu (p:=fun i=>i<r.length∧(at5 r i).c1=x) ⟨ac,ad⟩
 have aa:(at5 r i).c3=x:=by
  rw[h.arcs.lab (h.hl hf) i2,i3]
  exact aMq h5
 refine⟨i,i2,?_,by rw[aa,h1],h.rch_cn hf h4.symm i2 hk i3 oM⟩
 unfold aEs
 refine decide_eq_true ⟨by rw[i3,aa],fun h0 hq=>i4 (i-1) oM ⟨oM,by rw[hq,i3]⟩⟩
end aAh
def posF (r:List T5) (i k:Nat):Nat:=((BH (aGo r i)).find? fun n=>itF (aDh r) n i==k).getD 0
theorem aAh.posF_spec {N:Nat} {es:List IE} {lab:List Int} {fl:List Bool} {r b:List T5} (h:aAh N es lab fl r b) {i k:Nat} (hi:i<r.length) (hR:Rch r i k):posF r i k<aGo r i∧itF (aDh r) (posF r i k) i=k:=by
 obtain⟨n,hn,he⟩:=h.arcs.pos_of hi hR
 unfold posF
 cases hf:(BH (aGo r i)).find? fun n=>itF (aDh r) n i==k with
 |none=>
  rw[EE] at hf
  exact(hf n (A6.2 hn) (by simp[he])).elim
 |some q=>
  have h1:=List.find?_some hf
  have h2:=A6.1 (DJ hf)
  exact⟨h2,by simpa using h1⟩
def vtA (r:List T5) (i n:Nat):Nat:=(at5 r (itF (aDh r) n i)).c1.toNat
def edA (r:List T5) (i n:Nat):Nat:=edx r (itF (aDh r) n i)
def aUt (r:List T5) (i n:Nat):Nat:=posF r i (aBo r (itF (aDh r) n i))
theorem aAh.bro_at {N:Nat} {es:List IE} {lab:List Int} {fl:List Bool} {r b:List T5} (h:aAh N es lab fl r b) (hf:∀e∈es,inE N e) {i n:Nat} (hi:i<r.length):aUt r i n<aGo r i∧itF (aDh r) (aUt r i n) i=aBo r (itF (aDh r) n i):=
 h.posF_spec hi (Rch.trans ⟨n,rfl⟩ (h.rch_bro hf (aBx aBi hi n)))
theorem aAh.vt_succ {N:Nat} {es:List IE} {lab:List Int} {fl:List Bool} {r b:List T5} (h:aAh N es lab fl r b) {i n:Nat} (hi:i<r.length):vtA r i (n+1)=(at5 r (itF (aDh r) n i)).c2.toNat:=by
 show(at5 r (aDh r (itF (aDh r) n i))).c1.toNat=_
 rw[h.arcs.sig_from (aBx aBi hi n)]
theorem aAh.tw {N:Nat} {es:List IE} {lab:List Int} {fl:List Bool} {r b:List T5} (h:aAh N es lab fl r b) (hf:∀e∈es,inE N e) {i:Nat} (hi:i<r.length):Tw (gE es) (Fs fl) (aGo r i) (vtA r i) (edA r i) (aUt r i) where
 mem k hk:=(h.arc_g hf (aBx aBi hi k)).1
 ends k hk:=by rw[h.vt_succ hi];exact(h.arc_g hf (aBx aBi hi k)).2.1
 round:=by unfold vtA;rw[(h.arcs.per hi).2.2.1];rfl
 bro_lt k _:=(h.bro_at hf hi).1
 bro_ne k _ hq:=by
  have h1:=(h.bro_at hf (n:=k) hi).2
  rw[hq] at h1
  exact h.arcs.bro_ne (aBx aBi hi k) h1.symm
 bro_bro k hk:=by
  have h1:=(h.bro_at hf (n:=k) hi)
  have h2:=(h.bro_at hf (n:=aUt r i k) hi)
  refine h.arcs.pos_inj hi h2.1 hk ?_
  rw[h2.2,h1.2,h.arcs.bro_bro (aBx aBi hi k)]
 bro_from k _:=by
  rw[h.vt_succ hi]
  unfold vtA
  rw[(h.bro_at hf hi).2,h.arcs.bro (aBx aBi hi k)]
 bro_to k _:=by
  rw[h.vt_succ hi,(h.bro_at hf hi).2,h.arcs.bro (aBx aBi hi k)];rfl
 uniq j k hj hk he:=by
  rcases h.arcs.edx_eq (aBx aBi hi j) (aBx aBi hi k) he with h1|h1
  ·exact .inl (h.arcs.pos_inj hi hj hk h1)
  ·refine .inr (h.arcs.pos_inj hi hj (h.bro_at hf hi).1 ?_)
   rw[h1,(h.bro_at hf hi).2]
 bridge:=h.bridge
theorem srtOf {o:T5} {l A:List T5} (hp:A.Perm l) (hs:A.Pairwise fun a b=>ltO o a b=true):srt (ltO o) false l=A:=by
 have ac:∀a,ltO o a a=false:=fun a=>by
  cases h:ltO o a a with
  |false=>rfl
  |true=>have:=(aBy o).asym a a h;rw[h] at this;simp at this
 refine List.Perm.eq_of_pairwise (le:=fun a b=>ltO o b a=false) ?_ ((aJv (aBy o) false l).imp fun {a b} h=>by simpa using h) (hs.imp fun {a b} h=>(aBy o).asym a b h) ((aBa l).trans hp.symm)
 intro a b ha hb h1 h2
 have aa:a∈A:=hp.mem_iff.2 (aDf ha)
 refine DI fun ab=> ?_
 have key:ltO o a b=true∨ltO o b a=true:=by
  obtain⟨i,hi,rfl⟩:=CG.1 aa
  obtain⟨j,hj,rfl⟩:=CG.1 hb
  rcases CJ i j with h3|h3|h3
  ·exact .inl (BJ.1 hs i j hi hj h3)
  ·subst h3;exact(ab rfl).elim
  ·exact .inr (BJ.1 hs j i hj hi h3)
 rcases key with h3|h3
 ·rw[h2] at h3;cases h3
 ·rw[h1] at h3;cases h3
theorem aXj (r:List T5):∀n,(aCn r n).map (·.c0)=(aQx r n).map fun k=>(at5 r k).c0
 |0=>rfl
 |n+1=>by
  rw[aGp,aMo,AX,AX,aXj r n]
  congr 1
  split
  ·unfold aKm aDi;rw[DE,DE];rfl
  ·rfl
theorem bJu (r:List T5):(BH r.length).map (at5 r)=r:=by
 apply List.ext_getElem
 ·simp
 ·intro i h1 h2
  rw[List.getElem_map,List.getElem_range]
  unfold at5
  rw[AN,AE h2];rfl
namespace aAh
variable {N:Nat} {es:List IE} {lab:List Int} {fl:List Bool} {r b:List T5}
theorem idx_perm (h:aAh N es lab fl r b) (hf:∀e∈es,inE N e):(aQx r r.length).Perm (BH r.length):=by
 rw[List.perm_ext_iff_of_nodup (h.arcs.idx_nodup (h.hl hf) (AG _)) List.nodup_range]
 intro k
 rw[A6]
 constructor
 ·intro hk
  obtain⟨i,hi,_,n,_,rfl⟩:=aQa hk
  exact aBx aBi hi n
 ·intro hk
  obtain⟨i,hi,hr,_,hR⟩:=h.root_of hf hk
  obtain⟨n,hn,he⟩:=h.arcs.pos_of hi hR
  unfold aQx
  refine B9.2 ⟨i,A6.2 hi,?_⟩
  rw[if_pos hr]
  exact AU.2 ⟨n,A6.2 hn,he⟩
theorem arc_b (h:aAh N es lab fl r b) {i n:Nat} (hi:i<r.length) (hr:aEs r i=true) (hn:n<aGo r i):aDi r i n∈b:=by
 rw[h.tours]
 unfold aFk aCn
 refine B9.2 ⟨i,A6.2 hi,?_⟩
 rw[if_pos hr]
 exact List.mem_map_of_mem (A6.2 hn)
theorem b_arc (h:aAh N es lab fl r b) {t:T5} (ht:t∈b):∃i n,i<r.length∧aEs r i=true∧n<aGo r i∧t=aDi r i n:=by
 rw[h.tours] at ht
 unfold aFk aCn at ht
 obtain⟨i,hi,hx⟩:=B9.1 ht
 split at hx
 next hr=>
  obtain⟨n,hn,rfl⟩:=AU.1 hx
  exact⟨i,n,A6.1 hi,hr,A6.1 hn,rfl⟩
 next=>simp at hx
end aAh
def trv (x:Int):Nat→Int→Fo→List T5
 |_,_,.nil=>[]
 |p,u,.node v s r=>⟨x,(p:Int),(v:Int),u,((s.sz+1:Nat):Int)⟩::(trv x (p+1) v s++⟨x,((p+1+2*s.sz:Nat):Int),-1,-1,0⟩::trv x (p+2+2*s.sz) u r)
def aHj:Int→Int→Nat→Fo→List T5
 |_,_,_,.nil=>[]
 |u,d,n,.node v s r=>⟨(v:Int),u,(n:Int),((s.sz+1:Nat):Int),d+1⟩::(aHj v (d+1) (n+1) s++aHj u d (n+1+s.sz) r)
theorem aKn:∀(T:Fo) (u d:Int) (n:Nat),(aHj u d n T).map (·.c0)=T.vs.map fun (v:Nat)=>(v:Int)
 | .nil,_,_,_=>rfl
 | .node v s r,u,d,n=>by simp only[aHj,Fo.vs,AZ,AX,aKn s,aKn r]
theorem aTx (T:Fo) (u d:Int) (n:Nat):(aHj u d n T).length=T.sz:=by
 rw[←T.vs_len,←AY (f:=fun t:T5=>t.c0),aKn,AY]
theorem aTy:∀(T:Fo) (u d:Int) (n:Nat),(aHj u d n T).map (·.c2)=(List.range' n T.sz).map fun (v:Nat)=>(v:Int)
 | .nil,_,_,_=>rfl
 | .node v s r,u,d,n=>by
  simp only[aHj,Fo.sz,AZ,AX,aTy s,aTy r]
  rw[←AX,List.range'_append_1,show s.sz+1+r.sz=(s.sz+r.sz)+1 by omega,List.range'_succ,AZ]
theorem aJx:∀{T:Fo} {u d:Int} {n:Nat} {e:T5},e∈aHj u d n T→(n:Int)≤e.c2∧1≤e.c3∧e.c2+e.c3≤((n+T.sz:Nat):Int)∧d+1≤e.c4∧e.c4≤d+(T.sz:Int)
 | .nil,_,_,_,_,h=>by simp[aHj] at h
 | .node v s r,u,d,n,e,h=>by
  simp only[aHj,AM,AO] at h
  simp only[Fo.sz]
  rcases h with rfl|h|h
  ·dsimp only;omega
  ·have:=aJx h;omega
  ·have:=aJx h;omega
theorem aXk {T:Fo} {u d:Int} {n:Nat} {e:T5} (h:e∈aHj u d n T):∃v:Nat,v∈T.vs∧e.c0=v:=by
 have h1:=List.mem_map_of_mem (f:=fun t:T5=>t.c0) h
 rw[aKn] at h1
 obtain⟨v,hv,he⟩:=AU.1 h1
 exact⟨v,hv,he.symm⟩
theorem aOe:∀{T:Fo} {u d:Int} {n:Nat} {e:T5},e∈aHj u d n T→(e.c1=u∧e.c4=d+1)∨∃e'∈aHj u d n T,e'.c0=e.c1∧e.c4=e'.c4+1∧e'.c2<e.c2∧e.c2+e.c3≤e'.c2+e'.c3
 | .nil,_,_,_,_,h=>by simp[aHj] at h
 | .node v s r,u,d,n,e,h=>by
  simp only[aHj,AM,AO] at h⊢
  rcases h with rfl|h|h
  ·exact .inl ⟨rfl,rfl⟩
  ·right
   have hb:=aJx h
   rcases aOe h with⟨h1,h2⟩|⟨e',h1,h2⟩
   ·exact⟨_,.inl rfl,h1.symm,h2,oD,oD⟩
   ·exact⟨e',.inr (.inl h1),h2⟩
  ·rcases aOe h with h1|⟨e',h1,h2⟩
   ·exact .inl h1
   ·exact .inr ⟨e',.inr (.inr h1),h2⟩
theorem bAd {J:Int→Nat→Prop}:∀{T:Fo} {u d:Int} {n:Nat} {e:T5},T.Jo J u→e∈aHj u d n T→J e.c1 e.c0.toNat
 | .nil,_,_,_,_,_,h=>by simp[aHj] at h
 | .node v s r,u,d,n,e,hj,h=>by
  obtain⟨h1,h2,h3⟩:=hj
  simp only[aHj,AM,AO] at h
  rcases h with rfl|h|h
  ·dsimp only;rw[AR];exact h1
  ·exact bAd h2 h
  ·exact bAd h3 h
def bAe (p:T5→Bool) (f:T5→Int) (l:List T5):Int:=((l.filter p).map f).sum
theorem bNp (p:T5→Bool) (f:T5→Int):bAe p f []=0:=rfl
theorem aFl (p:T5→Bool) (f:T5→Int) (e:T5) (l:List T5):bAe p f (e::l)=(if p e then f e else 0)+bAe p f l:=by
 unfold bAe
 rw[List.filter_cons]
 split<;>simp
theorem aQd (p:T5→Bool) (f:T5→Int) (a b:List T5):bAe p f (a++b)=bAe p f a+bAe p f b:=by
 unfold bAe;rw[List.filter_append,AX,List.sum_append]
theorem bJv (p:T5→Bool) (f:T5→Int) {a b:List T5} (h:a.Perm b):bAe p f a=bAe p f b:=by
 induction h with
 |nil=>rfl
 |cons x _ ih=>rw[aFl,aFl,ih]
 |swap x y l=>rw[aFl,aFl,aFl,aFl];omega
 |trans _ _ h1 h2=>rw[h1,h2]
theorem aQe (p:T5→Bool) (f:T5→Int) {l:List T5} (h:∀e∈l,p e=false):bAe p f l=0:=by
 unfold bAe
 rw[List.filter_eq_nil_iff.2 (fun e he=>by rw[h e he];decide)]
 rfl
def chF:Int→List Int→Int→Nat→Fo→List (T5×List Int)
 |_,_,_,_,.nil=>[]
 |u,up,d,n,.node v s r=>(⟨(v:Int),u,(n:Int),((s.sz+1:Nat):Int),d+1⟩,(v:Int)::up)::(chF v ((v:Int)::up) (d+1) (n+1) s++chF u up d (n+1+s.sz) r)
theorem aMr:∀(T:Fo) (u:Int) (up:List Int) (d:Int) (n:Nat),(chF u up d n T).map (·.1)=aHj u d n T
 | .nil,_,_,_,_=>rfl
 | .node v s r,u,up,d,n=>by simp only[chF,aHj,AZ,AX,aMr s,aMr r]
theorem aTz {T:Fo} {u:Int} {up:List Int} {d:Int} {n:Nat} {x:T5×List Int} (h:x∈chF u up d n T):x.1∈aHj u d n T:=by
 rw[←aMr T u up d n];exact List.mem_map_of_mem h
theorem chF_of {T:Fo} {u:Int} (up:List Int) {d:Int} {n:Nat} {e:T5} (h:e∈aHj u d n T):∃c,(e,c)∈chF u up d n T:=by
 rw[←aMr T u up d n] at h
 obtain⟨⟨e',c⟩,hx,rfl⟩:=AU.1 h
 exact⟨c,hx⟩
inductive Way (par:Int→Int):Int→List Int→Prop
 |top {v:Int}:v<0→Way par v []
 |up {v:Int} {c:List Int}:0≤v→Way par (par v) c→Way par v (v::c)
theorem bAf {par:Int→Int}:∀{T:Fo} {u:Int} {up:List Int} {d:Int} {n:Nat},(∀e∈aHj u d n T,par e.c0=e.c1)→Way par u up→∀x∈chF u up d n T,Way par x.1.c0 x.2
 | .nil,_,_,_,_,_,_,x,h=>by simp[chF] at h
 | .node v s r,u,up,d,n,hp,hu,x,h=>by
  simp only[aHj,AM,AO] at hp
  simp only[chF,AM,AO] at h
  have hv:Way par v ((v:Int)::up):= .up oM (by rw[hp _ (.inl rfl)];exact hu)
  rcases h with rfl|h|h
  ·exact hv
  ·exact bAf (fun e he=>hp e (.inr (.inl he))) hv x h
  ·exact bAf (fun e he=>hp e (.inr (.inr he))) hu x h
theorem aQf:∀{T:Fo} {u:Int} {up:List Int} {d:Int} {n:Nat} {x:T5×List Int},x∈chF u up d n T→(∀w∈up,w∈x.2)∧(∀w∈x.2,w∈up∨∃v∈T.vs,w=(v:Int))∧(x.2.length:Int)+d=x.1.c4+up.length
 | .nil,_,_,_,_,x,h=>by simp[chF] at h
 | .node v s r,u,up,d,n,x,h=>by
  simp only[chF,AM,AO] at h
  simp only[Fo.vs,AM,AO]
  rcases h with rfl|h|h
  ·dsimp only
   refine⟨fun w hw=>AI _ hw,fun w hw=> ?_,?_⟩
   ·rcases AM.1 hw with rfl|hw
    ·exact .inr ⟨v,.inl rfl,rfl⟩
    ·exact .inl hw
   ·simp only[AL];omega
  ·obtain⟨h1,h2,h3⟩:=aQf h
   refine⟨fun w hw=>h1 w (AI _ hw),fun w hw=> ?_,by simp only[AL] at h3;omega⟩
   rcases h2 w hw with h4|⟨y,h4,h5⟩
   ·rcases AM.1 h4 with rfl|h4
    ·exact .inr ⟨v,.inl rfl,rfl⟩
    ·exact .inl h4
   ·exact .inr ⟨y,.inr (.inl h4),h5⟩
  ·obtain⟨h1,h2,h3⟩:=aQf h
   refine⟨h1,fun w hw=> ?_,h3⟩
   rcases h2 w hw with h4|⟨y,h4,h5⟩
   ·exact .inl h4
   ·exact .inr ⟨y,.inr (.inr h4),h5⟩
theorem bJw:∀{T:Fo} {u:Int} {up:List Int} {d:Int} {n:Nat},T.vs.Nodup→(∀v∈T.vs,(v:Int)∉up)→∀x∈chF u up d n T,∀e∈aHj u d n T,(e.c0∈x.2↔e.c2≤x.1.c2∧x.1.c2<e.c2+e.c3)
 | .nil,_,_,_,_,_,_,x,h=>by simp[chF] at h
 | .node v s r,u,up,d,n,hn,hu,x,h=>by
  intro e he
  simp only[Fo.vs,CB,AO,B8,not_or] at hn
  obtain⟨⟨ag,ab⟩,ah,ai,ad⟩:=hn
  simp only[Fo.vs,AM,AO] at hu
  simp only[chF,AM,AO] at h
  simp only[aHj,AM,AO] at he
  have ae:∀y∈s.vs,(y:Int)∉(v:Int)::up:=fun y hy hq=>by
   rcases AM.1 hq with h1|h1
   ·exact ag (by rw[show v=y by omega];exact hy)
   ·exact hu y (.inr (.inl hy)) h1
  have ac:∀y∈r.vs,(y:Int)∉up:=fun y hy=>hu y (.inr (.inr hy))
  rcases h with rfl|h|h
  ·
   dsimp only
   rcases he with rfl|he|he
   ·dsimp only;simp;omega
   ·obtain⟨y,hy,aa⟩:=aXk he
    have hb:=aJx he
    rw[aa]
    refine⟨fun hq=>(ae y hy hq).elim,fun hq=>by omega⟩
   ·obtain⟨y,hy,aa⟩:=aXk he
    have hb:=aJx he
    rw[aa]
    refine⟨fun hq=> ?_,fun hq=>by omega⟩
    rcases AM.1 hq with h1|h1
    ·exact(ab (by rw[show v=y by omega];exact hy)).elim
    ·exact(ac y hy h1).elim
  ·have hx:=aJx (aTz h)
   obtain⟨u1,u2,_⟩:=aQf h
   rcases he with rfl|he|he
   ·dsimp only
    exact⟨fun _=>by omega,fun _=>u1 _ AH⟩
   ·exact bJw ah ae x h e he
   ·obtain⟨y,hy,aa⟩:=aXk he
    have hb:=aJx he
    rw[aa]
    refine⟨fun hq=> ?_,fun hq=>by omega⟩
    rcases u2 _ hq with h1|⟨z,hz,h1⟩
    ·rcases AM.1 h1 with h1|h1
     ·exact(ab (by rw[show v=y by omega];exact hy)).elim
     ·exact(ac y hy h1).elim
    ·exact(ad z hz y hy oM).elim
  ·have hx:=aJx (aTz h)
   obtain⟨u1,u2,_⟩:=aQf h
   rcases he with rfl|he|he
   ·dsimp only
    refine⟨fun hq=> ?_,fun hq=>by omega⟩
    rcases u2 _ hq with h1|⟨z,hz,h1⟩
    ·exact(hu v (.inl rfl) h1).elim
    ·exact(ab (by rw[show v=z by omega];exact hz)).elim
   ·obtain⟨y,hy,aa⟩:=aXk he
    have hb:=aJx he
    rw[aa]
    refine⟨fun hq=> ?_,fun hq=>by omega⟩
    rcases u2 _ hq with h1|⟨z,hz,h1⟩
    ·exact(hu y (.inr (.inl hy)) h1).elim
    ·exact(ad y hy z hz oM).elim
   ·exact bJw ai ac x h e he
theorem bAg (w:Int):∀{T:Fo} {u:Int} {up:List Int} {d:Int} {n:Nat},T.vs.Nodup→(((chF u up d n T).countP fun x=>decide (w∈x.2):Nat):Int)=if w∈up then(T.sz:Int) else bAe (fun e=>decide (e.c0=w)) (·.c3) (aHj u d n T)
 | .nil,_,_,_,_,_=>by simp[chF,aHj,Fo.sz,bNp]
 | .node v s r,u,up,d,n,hn=>by
  simp only[Fo.vs,CB,AO,B8,not_or] at hn
  obtain⟨⟨aa,ae⟩,ab,ac,_⟩:=hn
  have h1:=bAg w (T:=s) (u:=v) (up:=(v:Int)::up) (d:=d+1) (n:=n+1) ab
  have h2:=bAg w (T:=r) (u:=u) (up:=up) (d:=d) (n:=n+1+s.sz) ac
  simp only[chF,aHj,List.countP_cons,List.countP_append,aFl,aQd,Fo.sz,decide_eq_true_eq,AM] at h1 h2⊢
  by_cases hu:w∈up
  ·simp only[hu,or_true,if_true] at h1 h2⊢
   omega
  ·by_cases hv:w=(v:Int)
   ·have hz:bAe (fun e=>decide (e.c0=w)) (·.c3) (aHj (v:Int) (d+1) (n+1) s)=0:=aQe _ _ fun e he=>by
     obtain⟨y,hy,ag⟩:=aXk he
     refine decide_eq_false fun hq=>aa ?_
     rw[show v=y by omega];exact hy
    simp only[hu,or_false,if_false] at h1 h2⊢
    rw[if_pos hv] at h1
    rw[if_pos hv,if_pos hv.symm,hz]
    omega
   ·have ad:¬((v:Int)=w):=fun hq=>hv hq.symm
    simp only[hu,hv,ad,or_self,if_false] at h1 h2⊢
    omega
def aXl (bh bd:Nat):aAt (Bool×T5) where
 C k:=[[(bh,row [.bool k.1] 4)],[(bd,row (aAk k.2) 33)]]
 outs k t:=if k.1 then[⟨(if t.c4<k.2.c4 then t else k.2).c3,(if t.c4<k.2.c4 then t else k.2).c4,(if t.c4<k.2.c4 then t else k.2).c2,(if t.c4<k.2.c4 then t else k.2).c1,
  AJ .i64 ((AJ .i64 (AJ .i64 ((if t.c4<k.2.c4 then k.2 else t).c4-(if t.c4<k.2.c4 then t else k.2).c4)+1)).tdiv 2)⟩,
  ⟨(if t.c4<k.2.c4 then k.2 else t).c3,(if t.c4<k.2.c4 then k.2 else t).c4,-1,-1,0⟩] else[]
 next k t:=if k.1 then(false,if t.c4<k.2.c4 then t else k.2) else(true,t)
 err _ _:=none
def aId (bl bn:Nat):aAt (Int×Int) where
 C k:=[[(bl,row [.int .i64 k.1] 2)],[(bn,row [.int .i64 k.2] 2)]]
 outs k t:=if t.c0=k.1 then[] else if k.1= -1 then[] else[⟨k.1,-1,k.1,-1,k.2⟩]
 next k t:=if t.c0=k.1 then(k.1,AJ .i64 (k.2+1)) else(t.c0,1)
 err _ _:=none
def aMs (bd bn:Nat):aAt (Int×Int) where
 C k:=[[(bd,row [.int .i64 k.1] 2)],[(bn,row [.int .i64 k.2] 2)]]
 outs k t:=if t.c2= -1 then[] else[⟨t.c2,t.c3,AJ .i64 (AJ .i64 (k.2+1)-1),t.c4,if t.c3= -1 then 0 else AJ .i64 (k.1+1)⟩]
 next k t:=if t.c2= -1 then(AJ .i64 (k.1-1),k.2) else(if t.c3= -1 then 0 else AJ .i64 (k.1+1),AJ .i64 (k.2+1))
 err _ _:=none
def rootsOut (sts:List T5) (last n:Int):List T5:=sts++if last= -1 then[] else[⟨last,-1,last,-1,n⟩]
def bCp (lts:List T5):List T5:=
 rootsOut ((aId 0 0).all (-1,0) (srt (ltO o1) false (lts.map fun t=>⟨t.c1,0,0,0,0⟩))) ((aId 0 0).st (-1,0) (srt (ltO o1) false (lts.map fun t=>⟨t.c1,0,0,0,0⟩))).1 ((aId 0 0).st (-1,0) (srt (ltO o1) false (lts.map fun t=>⟨t.c1,0,0,0,0⟩))).2
def bJx (tts:List T5):List T5:=(aXl 0 0).all (false,T5.zero) (srt (ltO o1) false tts)
def aUa (lts tts:List T5):List T5:=srt (ltO o12) false (bCp lts++bJx tts)
def aIv (lts tts:List T5):List T5:=srt (ltO o1) false ((aMs 0 0).all (0,0) (aUa lts tts))
def key (x:Int):T5:=⟨x,0,0,0,0⟩
def bJy (l:List (Int×Nat)):List T5:=l.flatMap fun x=>BY x.2 (key x.1)
def rootT (x:Int×Nat):T5:=⟨x.1,-1,x.1,-1,(x.2:Int)⟩
theorem aHk (x:Int×Nat) (l:List (Int×Nat)):bJy (x::l)=BY x.2 (key x.1)++bJy l:=by unfold bJy;rw[A8]
theorem bCq {l:List (Int×Nat)} {t:T5} (h:t∈bJy l):∃x∈l,t=key x.1:=by
 obtain⟨x,hx,h⟩:=B9.1 h
 exact⟨x,hx,(List.mem_replicate.1 h).2⟩
theorem aXm (x:Int) (rest:List T5):∀(n m:Nat),m+n≤1000000000→(aId 0 0).all (x,(m:Int)) (BY n (key x)++rest)=(aId 0 0).all (x,((m+n:Nat):Int)) rest∧
  (aId 0 0).st (x,(m:Int)) (BY n (key x)++rest)=(aId 0 0).st (x,((m+n:Nat):Int)) rest
 |0,m,_=>⟨rfl,rfl⟩
 |n+1,m,h=>by
  have ih:=aXm x rest n (m+1) oM
  have hn:(aId 0 0).next (x,(m:Int)) (key x)=(x,((m+1:Nat):Int)):=by
   unfold aId key;dsimp only
   rw[if_pos rfl,aAd oM];rfl
  have ho:(aId 0 0).outs (x,(m:Int)) (key x)=[]:=by
   unfold aId key;dsimp only
   rw[if_pos rfl]
  rw[List.replicate_succ,AA]
  simp only[aAt.all,aAt.st,hn,ho,AB]
  rw[ih.1,ih.2,show m+1+n=m+(n+1) by omega]
  exact⟨rfl,rfl⟩
theorem aSe:∀(l:List (Int×Nat)) (k:Int×Int),(∀x∈l,x.1≠-1∧1≤x.2∧x.2≤1000000000)→l.Pairwise (fun a b=>a.1<b.1)→(∀x∈l,x.1≠k.1)→
  rootsOut ((aId 0 0).all k (bJy l)) ((aId 0 0).st k (bJy l)).1 ((aId 0 0).st k (bJy l)).2=(if k.1= -1 then[] else[⟨k.1,-1,k.1,-1,k.2⟩])++l.map rootT
 |[],k,_,_,_=>by
  show[]++_=_++[]
  rw[AB,AQ];rfl
 |(x,n)::l,k,h1,h2,h3=>by
  rw[BF] at h2
  obtain⟨hx,hn,aa⟩:=h1 _ AH
  dsimp only at hx hn aa
  have hk:=h3 _ AH
  dsimp only at hk
  obtain⟨n,rfl⟩:∃m,n=m+1:=⟨n-1,oM⟩
  have ih:=aSe l (x,((n+1:Nat):Int)) (fun y hy=>h1 y (AI _ hy)) h2.2 (fun y hy=>by have:=h2.1 y hy;dsimp only at this⊢;omega)
  rw[if_neg hx] at ih
  have hr:=aXm x (bJy l) n 1 oM
  rw[show 1+n=n+1 by omega,show((1:Nat):Int)=1 from rfl] at hr
  have ab:(aId 0 0).next k (key x)=(x,1):=by
   unfold aId key;dsimp only
   rw[if_neg hk]
  have ho:(aId 0 0).outs k (key x)=if k.1= -1 then[] else[⟨k.1,-1,k.1,-1,k.2⟩]:=by
   unfold aId key;dsimp only
   rw[if_neg hk]
  rw[aHk,List.replicate_succ,AA]
  simp only[aAt.all,aAt.st,ab,ho,hr.1,hr.2]
  unfold rootsOut at ih⊢
  rw[AP,ih]
  rfl
theorem bJz:∀(s:List T5),s.Pairwise (fun a b=>a.c0≤b.c0)→(∀t∈s,t=key t.c0)→∃l,s=bJy l∧l.Pairwise (fun a b=>a.1<b.1)∧∀x∈l,1≤x.2∧key x.1∈s
 |[],_,_=>⟨[],rfl,CI,by simp⟩
 |t::s,h1,h2=>by
  rw[BF] at h1
  obtain⟨l,rfl,hl,hx⟩:=bJz s h1.2 fun u hu=>h2 u (AI _ hu)
  have ht:=h2 t AH
  have aa:∀x∈l,t.c0≤x.1:=fun x ab=>h1.1 _ (hx x ab).2
  cases l with
  |nil=>
   refine⟨[(t.c0,1)],by rw[aHk];show[t]=[key t.c0]++[];rw[←ht];rfl,List.pairwise_singleton _ _,?_⟩
   intro x hx
   simp only[AT] at hx;subst hx
   exact⟨AG _,by rw[←ht];exact AH⟩
  |cons y l=>
   obtain⟨x,n⟩:=y
   by_cases ac:x=t.c0
   ·subst ac
    refine⟨(t.c0,n+1)::l,by rw[aHk,aHk];dsimp only;rw[List.replicate_succ,AA,←ht],?_,?_⟩
    ·rw[BF] at hl⊢
     exact hl
    ·intro z hz
     rcases AM.1 hz with rfl|hz
     ·exact⟨oD,by dsimp only;rw[←ht];exact AH⟩
     ·exact⟨(hx z (AI _ hz)).1,AI _ (hx z (AI _ hz)).2⟩
   ·refine⟨(t.c0,1)::(x,n)::l,by rw[aHk (t.c0,1)];dsimp only;rw[←ht];rfl,?_,?_⟩
    ·rw[BF]
     refine⟨fun z hz=> ?_,hl⟩
     have h3:=aa _ AH
     dsimp only at h3⊢
     rcases AM.1 hz with rfl|ad
     ·dsimp only;omega
     ·have:=(BF.1 hl).1 z ad
      dsimp only at this
      omega
    ·intro z hz
     rcases AM.1 hz with rfl|hz
     ·exact⟨AG _,by dsimp only;rw[←ht];exact AH⟩
     ·exact⟨(hx z hz).1,AI _ (hx z hz).2⟩
theorem aSf:∀{l:List (Int×Nat)},l.Pairwise (fun a b=>a.1<b.1)→∀{x:Int×Nat},x∈l→(bJy l).count (key x.1)=x.2
 |y::l,h,x,hx=>by
  rw[BF] at h
  rw[aHk,List.count_append,List.count_replicate]
  rcases AM.1 hx with rfl|hx
  ·have h0:(bJy l).count (key x.1)=0:=by
    rw[List.count_eq_zero]
    intro hm
    obtain⟨z,hz,he⟩:=bCq hm
    have:=h.1 z hz
    have:=congrArg T5.c0 he
    simp only[key] at this
    omega
   rw[h0];simp
  ·have ih:=aSf h.2 hx
   have aa:¬(key y.1=key x.1):=by
    intro he
    have:=h.1 x hx
    have:=congrArg T5.c0 he
    simp only[key] at this
    omega
   rw[ih]
   simp[aa]
theorem bAh {x y:Int} (h:key x=key y):x=y:=congrArg T5.c0 h
theorem bSl (lab:List Int):(aAy lab).map (fun t=>(⟨t.c1,0,0,0,0⟩:T5))=lab.map key:=by
 refine CH fun i=> ?_
 unfold aAy
 rw[DE,BU,BU]
 by_cases h:i<lab.length
 ·rw[DY h,AE h]
  simp[key,AN,h]
 ·rw[BL oA11,BL oM];rfl
theorem bKa (lab:List Int) (x:Int):(lab.map key).count (key x)=lab.count x:=by
 induction lab with
 |nil=>rfl
 |cons y l ih=>
  rw[AZ,List.count_cons,List.count_cons,ih]
  by_cases h:y=x
  ·subst h;simp
  ·have:¬key y=key x:=fun e=>h (bAh e)
   simp[h,this]
theorem aXn {lab:List Int} (h0:∀x∈lab,0≤x) (ae:lab.length≤1000000):∃l:List (Int×Nat),bCp (aAy lab)=l.map rootT∧l.Pairwise (fun a b=>a.1<b.1)∧(∀x∈l,x.1∈lab∧x.2=lab.count x.1)∧∀y∈lab,∃x∈l,x.1=y:=by
 have hp:(srt (ltO o1) false (lab.map key)).Perm (lab.map key):=aBa _
 have hs:(srt (ltO o1) false (lab.map key)).Pairwise (fun a b=>a.c0≤b.c0):=(aJv (aBy o1) false (lab.map key)).imp fun {a b} h=>by
  simp only[Bool.false_eq_true,if_false] at h
  have h2:¬(ltO o1 b a=true):=by rw[h];decide
  rw[aNd] at h2
  omega
 obtain⟨l,hl,aa,ac⟩:=bJz _ hs (fun t ht=>by
  obtain⟨x,_,rfl⟩:=AU.1 (hp.mem_iff.1 ht);rfl)
 have ab:∀x∈l,x.1∈lab:=fun x hx=>by
  obtain⟨y,hy,he⟩:=AU.1 (hp.mem_iff.1 (ac x hx).2)
  rw[←bAh he];exact hy
 have ad:∀x∈l,x.2=lab.count x.1:=fun x hx=>by
  rw[←aSf aa hx,←hl,hp.count_eq,bKa]
 refine⟨l,?_,aa,fun x hx=>⟨ab x hx,ad x hx⟩,fun y hy=> ?_⟩
 ·unfold bCp
  rw[bSl,hl,aSe l (-1,0) (fun x hx=>⟨fun he=>by have:=h0 _ (ab x hx);omega,(ac x hx).1,by have:=List.count_le_length (a:=x.1) (l:=lab);have:=ad x hx;omega⟩) aa (fun x hx he=>by have:=h0 _ (ab x hx);dsimp only at he;omega)]
  rfl
 ·obtain⟨x,hx,he⟩:=bCq (l:=l) (by rw[←hl];exact hp.mem_iff.2 (AU.2 ⟨y,hy,rfl⟩))
  exact⟨x,hx,(bAh he).symm⟩
namespace aAh
variable {N:Nat} {es:List IE} {lab:List Int} {fl:List Bool} {r b:List T5}
theorem roots_for (h:aAh N es lab fl r b) (hf:∀e∈es,inE N e) (hN:N≤1000000):(bCp (aAy lab)).length+(aHw (edT es) fl).length≤N:=by
 classical
 obtain⟨l,hl,ac,aa,_⟩:=aXn (lab:=lab) (fun x hx=>by obtain⟨v,rfl,_⟩:=h.labs.mem hx;omega) (by rw[h.labs.len];exact hN)
 have hc:=aIu (g:=gE es) (n:=N) (fun k v=>decide (Mn (gE es) (fun j=>j<k) v)) (fun i=>decide (¬Cn (gE es) (fun j=>j<i) (gE es i).1 (gE es i).2)) (fun k v=>decide_eq_true_iff) (fun i=>decide_eq_true_iff) es.length (gE_lt hf)
 have h1:(l.map fun x=>x.1.toNat).length≤((BH N).filter fun v=>decide (Mn (gE es) (fun j=>j<es.length) v)).length:=by
  refine List.Nodup.length_le_of_subset ?_ ?_
  ·refine List.Pairwise.map _ (R:=fun (a b:Int×Nat)=>a.1<b.1∧0≤a.1) (fun a b h=>by omega) ?_
   refine D6 ?_ ac
   intro a b ha _ ab
   obtain⟨v,hv,_⟩:=h.labs.mem (aa a ha).1
   omega
  ·intro v hv
   obtain⟨x,hx,rfl⟩:=AU.1 hv
   obtain⟨v,hv,ag,hm⟩:=h.labs.mem (aa x hx).1
   rw[hv]
   exact B0.2 ⟨A6.2 oM,decide_eq_true (by simpa using hm)⟩
 have h2:((aHw (edT es) fl).map fun t=>t.c0.toNat).length≤((BH es.length).filter fun i=>decide (¬Cn (gE es) (fun j=>j<i) (gE es i).1 (gE es i).2)).length:=by
  refine List.Nodup.length_le_of_subset ?_ ?_
  ·refine List.Pairwise.map _ (R:=fun (a b:T5)=>a.c0<b.c0∧0≤a.c0) (fun a b h=>by omega) ?_
   have hp:(aHw (edT es) fl).Pairwise fun a b=>a.c0<b.c0:=by
    have:=List.Pairwise.sublist (R:=fun x y:Int=>x<y) (aJm (edT es) fl) (by rw[BC];exact aSd es)
    rwa[BC] at this
   refine D6 ?_ hp
   intro a b ha _ ab
   obtain⟨i,d,_,_,rfl⟩:=h.edge ha
   exact⟨ab,oD⟩
  ·intro v hv
   obtain⟨t,ht,rfl⟩:=AU.1 hv
   obtain⟨i,d,hd,ad,rfl⟩:=h.edge ht
   have hi:=(AK.1 hd).1
   have hk:=(h.fors.2 i true ad).1 rfl
   refine B0.2 ⟨A6.2 oD,decide_eq_true ?_⟩
   dsimp only
   rw[AR]
   exact fun ae=>hk.2 (ae.mono fun j hj=>⟨oM,hj⟩)
 rw[AY] at h1 h2
 rw[hl,AY]
 omega
end aAh
theorem aIw {α β:Type} {f:α→β}:∀{l:List α},(l.map f).Nodup→∀{x y:α},x∈l→y∈l→f x=f y→x=y
 |[],_,_,_,h,_,_=>by simp at h
 |a::l,hn,x,y,hx,hy,h=>by
  rw[AZ,CB] at hn
  rcases AM.1 hx with rfl|ab
  ·rcases AM.1 hy with rfl|aa
   ·rfl
   ·exact(hn.1 (h▸List.mem_map_of_mem aa)).elim
  ·rcases AM.1 hy with rfl|aa
   ·exact(hn.1 (h▸List.mem_map_of_mem ab)).elim
   ·exact aIw hn.2 ab aa h
def aFp (b:List T5) (x:Int):T5:=(b.find? fun t=>t.c0==x).getD T5.zero
theorem aKo {b:List T5} (hn:(b.map (·.c0)).Nodup) {t:T5} (ht:t∈b):aFp b t.c0=t:=by
 unfold aFp
 cases hf:b.find? fun u=>u.c0==t.c0 with
 |none=>
  rw[EE] at hf
  exact(hf t ht oA15).elim
 |some q=>
  have h1:=List.find?_some hf
  exact aIw hn (DJ hf) ht (by simpa using h1)
def aJn (b:List T5) (t:T5):T5:=
 if t.c4<(aFp b (aFw t.c0)).c4 then⟨t.c3,t.c4,t.c2,t.c1,((aFp b (aFw t.c0)).c4-t.c4+1)/2⟩ else⟨t.c3,t.c4,-1,-1,0⟩
def aLj (b f:List T5):List T5:=f.flatMap fun e=>[aFp b (2*e.c0),aFp b (2*e.c0+1)]
theorem bNq (b:List T5) (f:List T5):aLj b f=(f.flatMap fun e=>[2*e.c0,2*e.c0+1]).map (aFp b):=by
 unfold aLj;rw[List.map_flatMap];rfl
theorem tdiv2 {x y:Int} (hx:0≤x) (aa:x<y) (hy:y≤1000000000):AJ .i64 ((AJ .i64 (AJ .i64 (y-x)+1)).tdiv 2)=(y-x+1)/2:=by
 rw[aAd (n:=y-x) oM,aAd (n:=y-x+1) oM,CE oM,aAd oM]
theorem aQg (b:List T5):∀(f:List T5) (d:T5),(∀e∈f,0≤e.c0∧(aFp b (2*e.c0)).c0=2*e.c0∧(aFp b (2*e.c0+1)).c0=2*e.c0+1∧0≤(aFp b (2*e.c0)).c4∧(aFp b (2*e.c0)).c4≤1000000000∧0≤(aFp b (2*e.c0+1)).c4∧(aFp b (2*e.c0+1)).c4≤1000000000∧(aFp b (2*e.c0)).c4≠(aFp b (2*e.c0+1)).c4)→
  ((aXl 0 0).all (false,d) (aLj b f)).Perm ((aLj b f).map (aJn b))
 |[],_,_=> .refl _
 |e::f,d,h=>by
  obtain⟨h0,h1,h2,h3,h4,h5,h6,h7⟩:=h e AH
  have ih:=fun d=>aQg b f d fun e he=>h e (AI _ he)
  have e1:aLj b (e::f)=aFp b (2*e.c0)::aFp b (2*e.c0+1)::aLj b f:=by unfold aLj;rw[A8];rfl
  have f1:aFw (aFp b (2*e.c0)).c0=2*e.c0+1:=by rw[h1];unfold aFw;rw[if_pos oM]
  have f2:aFw (aFp b (2*e.c0+1)).c0=2*e.c0:=by rw[h2];unfold aFw;rw[if_neg oM];omega
  generalize hu:aFp b (2*e.c0)=u at*
  generalize ht:aFp b (2*e.c0+1)=t at*
  rw[e1]
  show((aXl 0 0).all (false,d) (u::t::aLj b f)).Perm (aJn b u::aJn b t::(aLj b f).map (aJn b))
  have e2:(aXl 0 0).all (false,d) (u::t::aLj b f)=(aXl 0 0).outs (true,u) t++(aXl 0 0).all (false,if t.c4<u.c4 then t else u) (aLj b f):=by
   simp only[aAt.all];rfl
  rw[e2]
  have aa:aJn b u=if u.c4<t.c4 then⟨u.c3,u.c4,u.c2,u.c1,(t.c4-u.c4+1)/2⟩ else⟨u.c3,u.c4,-1,-1,0⟩:=by unfold aJn;rw[f1,ht]
  have ab:aJn b t=if t.c4<u.c4 then⟨t.c3,t.c4,t.c2,t.c1,(u.c4-t.c4+1)/2⟩ else⟨t.c3,t.c4,-1,-1,0⟩:=by unfold aJn;rw[f2,hu]
  have ho:(aXl 0 0).outs (true,u) t=if t.c4<u.c4 then[aJn b t,aJn b u] else[aJn b u,aJn b t]:=by
   unfold aXl
   dsimp only
   rw[if_pos rfl,aa,ab]
   by_cases hc:t.c4<u.c4
   ·rw[if_pos hc,if_pos hc,if_pos hc,if_pos hc,if_neg oM,tdiv2 h5 hc h4]
   ·rw[if_neg hc,if_neg hc,if_neg hc,if_neg hc,if_pos oM,tdiv2 h3 oM h6]
  rw[ho]
  split
  ·exact(CQ _ _ _).trans (((ih _).cons _).cons _)
  ·exact((ih _).cons _).cons _
namespace aAh
variable {N:Nat} {es:List IE} {lab:List Int} {fl:List Bool} {r b:List T5}
theorem nums (h:aAh N es lab fl r b) (hf:∀e∈es,inE N e):(b.map (·.c0)).Perm ((aHw (edT es) fl).flatMap fun e=>[2*e.c0,2*e.c0+1]):=by
 have h1:(b.map (·.c0)).Perm (r.map (·.c0)):=by
  rw[h.tours]
  unfold aFk
  rw[aXj]
  conv=>rhs;rw[←bJu r,DE]
  exact(h.idx_perm hf).map _
 refine h1.trans ((h.arcs.perm.map _).trans (List.Perm.of_eq ?_))
 unfold aMm
 rw[List.map_flatMap];rfl
theorem nums_nodup (h:aAh N es lab fl r b) (hf:∀e∈es,inE N e):(b.map (·.c0)).Nodup:=by
 refine(h.nums hf).nodup_iff.2 ?_
 have:=aLi h.arcs.nd (aAy lab)
 unfold aMm at this
 rw[List.map_flatMap] at this
 exact this
theorem pair_perm (h:aAh N es lab fl r b) (hf:∀e∈es,inE N e):(aLj b (aHw (edT es) fl)).Perm b:=by
 rw[bNq]
 refine(((h.nums hf).map (aFp b)).symm).trans (List.Perm.of_eq ?_)
 rw[DE]
 conv=>rhs;rw[←List.map_id b]
 exact List.map_congr_left fun t ht=>aKo (h.nums_nodup hf) ht
theorem num_b (h:aAh N es lab fl r b) (hf:∀e∈es,inE N e) {e:T5} (he:e∈aHw (edT es) fl) {x:Int} (hx:x=2*e.c0∨x=2*e.c0+1):∃t∈b,t.c0=x:=by
 have:=(h.nums hf).mem_iff (a:=x)
 obtain⟨t,ht,hq⟩:=AU.1 (this.2 (B9.2 ⟨e,he,by simpa using hx⟩))
 exact⟨t,ht,hq⟩
theorem look_flip (h:aAh N es lab fl r b) (hf:∀e∈es,inE N e) {i n:Nat} (hi:i<r.length) (hr:aEs r i=true):aFp b (aFw (aDi r i n).c0)=aDi r i (aUt r i n):=by
 obtain⟨h1,h2⟩:=h.bro_at hf (n:=n) hi
 have h3:(aDi r i (aUt r i n)).c0=aFw (aDi r i n).c0:=by
  unfold aDi;dsimp only
  rw[h2,h.arcs.bro (aBx aBi hi n)]
 rw[←h3]
 exact aKo (h.nums_nodup hf) (h.arc_b hi hr h1)
theorem vis_at (h:aAh N es lab fl r b) (hf:∀e∈es,inE N e) {i n:Nat} (hi:i<r.length) (hr:aEs r i=true):aJn b (aDi r i n)=
  if n<aUt r i n then⟨(at5 r i).c3,(n:Int),(vtA r i (n+1):Int),(vtA r i n:Int),((aUt r i n:Int)-n+1)/2⟩ else⟨(at5 r i).c3,(n:Int),-1,-1,0⟩:=by
 obtain⟨_,_,c1,_,c2,_⟩:=h.arc_g hf (aBx aBi hi n)
 have e1:((aDi r i n).c4)=(n:Int):=rfl
 have e2:(aDi r i n).c3=(at5 r i).c3:=h.arcs.it_lab (h.hl hf) hi n
 have e3:(aDi r i n).c2=(vtA r i (n+1):Int):=by rw[h.vt_succ hi];show(at5 r (itF (aDh r) n i)).c2=_;omega
 have e4:(aDi r i n).c1=(vtA r i n:Int):=by unfold vtA;show(at5 r (itF (aDh r) n i)).c1=_;omega
 unfold aJn
 rw[h.look_flip hf hi hr,e1,e2,e3,e4]
 show(if(n:Int)<(aUt r i n:Int) then _ else _)=_
 by_cases hc:n<aUt r i n
 ·rw[if_pos hc,if_pos oM];rfl
 ·rw[if_neg hc,if_neg oM]
theorem pairs_sorted (h:aAh N es lab fl r b) (hf:∀e∈es,inE N e):(aLj b (aHw (edT es) fl)).Pairwise fun x y=>ltO o1 x y=true:=by
 have h1:(aHw (edT es) fl).Pairwise fun a b=>a.c0<b.c0:=by
  have:=List.Pairwise.sublist (R:=fun x y:Int=>x<y) (aJm (edT es) fl) (by rw[BC];exact aSd es)
  rwa[BC] at this
 have aa:∀e∈aHw (edT es) fl,(aFp b (2*e.c0)).c0=2*e.c0∧(aFp b (2*e.c0+1)).c0=2*e.c0+1:=fun e he=>by
  obtain⟨t,ht,hq⟩:=h.num_b hf he (.inl rfl)
  obtain⟨u,hu,ab⟩:=h.num_b hf he (.inr rfl)
  rw[←ab,aKo (h.nums_nodup hf) hu,←hq,aKo (h.nums_nodup hf) ht]
  exact⟨rfl,rfl⟩
 unfold aLj
 rw[List.pairwise_flatMap]
 refine⟨fun e he=> ?_,D6 (fun {a c} ha hc ac=> ?_) h1⟩
 ·obtain⟨l1,l2⟩:=aa e he
  simp only[BF,AT,B6,false_implies,implies_true,CI,and_true,forall_eq]
  rw[aNd];omega
 ·obtain⟨a1,a2⟩:=aa a ha
  obtain⟨c1,c2⟩:=aa c hc
  intro x hx y hy
  rw[aNd]
  simp only[AM,B6,or_false] at hx hy
  rcases hx with rfl|rfl<;>rcases hy with rfl|rfl<;>omega
theorem turns_perm (h:aAh N es lab fl r b) (hf:∀e∈es,inE N e) (hN:N≤1000000):(bJx b).Perm (b.map (aJn b)):=by
 unfold bJx
 rw[srtOf (h.pair_perm hf) (h.pairs_sorted hf)]
 refine(aQg b _ _ ?_).trans ((h.pair_perm hf).map _)
 intro e he
 obtain⟨j,d,_,_,rfl⟩:=h.edge he
 obtain⟨t,ht,hq⟩:=h.num_b hf he (.inl rfl)
 obtain⟨u,hu,aa⟩:=h.num_b hf he (.inr rfl)
 rw[←aa,aKo (h.nums_nodup hf) hu,←hq,aKo (h.nums_nodup hf) ht]
 dsimp only at hq aa
 obtain⟨i,n,hi,hr,hn,rfl⟩:=h.b_arc ht
 have ab:u=aDi r i (aUt r i n):=by
  rw[←h.look_flip hf hi hr,hq,show aFw (2*(j:Int))=2*j+1 by unfold aFw;rw[if_pos oM],←aa,aKo (h.nums_nodup hf) hu]
 obtain⟨ac,_⟩:=h.bro_at hf (n:=n) hi
 have ad:=(h.tw hf hi).bro_ne n hn
 have hp:=(h.arcs.per hi).2.1
 have ae:=h.len
 have ag:=h.roots_for hf hN
 refine⟨oD,rfl,rfl,?_,?_,?_,?_,?_⟩
 ·show 0≤((n:Nat):Int);omega
 ·show((n:Nat):Int)≤_;omega
 ·rw[ab];show 0≤((aUt r i n:Nat):Int);omega
 ·rw[ab];show((aUt r i n:Nat):Int)≤_;omega
 ·rw[ab];show((n:Nat):Int)≠((aUt r i n:Nat):Int);omega
end aAh
theorem aYc.vis {P:Nat} {vt bro:Nat→Nat} {x:Int} {f:Nat→T5} (hf:∀n,n<P→f n=if n<bro n then⟨x,(n:Int),(vt (n+1):Int),(vt n:Int),((bro n:Int)-n+1)/2⟩ else⟨x,(n:Int),-1,-1,0⟩):
  ∀{T:Fo} {p q:Nat},aYc P vt bro T p q→(List.range' p (2*T.sz)).map f=trv x p (vt p) T
 | .nil,p,q,h=>rfl
 | .node v s r,p,q,h=>by
  obtain⟨hp,hd,ad,rfl,ab,ac,h1,h2⟩:=h
  have e1:=h1.len
  have i1:=h1.vis hf
  have i2:=h2.vis hf
  have e2:2*(Fo.node (vt (p+1)) s r).sz=(2*s.sz+(2*r.sz+1))+1:=by simp only[Fo.sz];omega
  rw[e2,List.range'_succ,←List.range'_append_1,List.range'_succ,AZ,AX,AZ,i1]
  have aa:bro p=p+1+2*s.sz:=e1
  rw[ac,aa] at i2
  rw[show p+1+2*s.sz+1=p+2+2*s.sz by omega] at i2⊢
  rw[i2]
  simp only[trv]
  congr 1
  ·rw[hf p hp,if_pos hd,aa]
   congr 1;omega
  ·congr 2
   rw[hf _ oM,if_neg (by rw[←aa,ab];omega)]
theorem bCr {α:Type} (L:List α) (i:Nat) {p:Nat→Bool}:∀{n:Nat},(∀j,j<n→p j=true→j=i)→(BH n).flatMap (fun j=>if p j then(if j=i then L else[]) else[])=if i<n∧p i=true then L else[]
 |0,_=>by simp
 |n+1,h=>by
  rw[D8,CF,bCr L i (n:=n) fun j hj=>h j oM,A8,List.flatMap_nil,AQ]
  by_cases hp:p n=true
  ·have:=h n oM hp
   subst this
   rw[if_pos hp,if_pos rfl,if_neg oM,if_pos ⟨oM,hp⟩,AB]
  ·rw[if_neg hp,AQ]
   by_cases hi:i<n∧p i=true
   ·rw[if_pos hi,if_pos ⟨oM,hi.2⟩]
   ·rw[if_neg hi,if_neg]
    rintro⟨h1,h2⟩
    have h4:i<n:=by
     rcases Nat.eq_or_lt_of_le (Nat.lt_succ_iff.1 h1) with rfl|h3
     ·exact(hp h2).elim
     ·exact h3
    exact hi ⟨h4,h2⟩
end Go.Proofs.YtaofijjjheiknaaGreat
