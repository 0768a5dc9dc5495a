/-
  Parts of the proof, put together (11). No condition.
-/
import Derived.Test.YtaofijjjheiknaaGreatP10
set_option linter.unusedVariables false
set_option linter.unusedSimpArgs false
set_option linter.unnecessarySimpa false
set_option maxHeartbeats 4000000
open Classical renaming byContradiction→BS
open Go.IntKind renaming wrap→AL
open Go.Proofs.Tryz renaming prog→AC
open Int renaming toNat_natCast→AU,tdiv_eq_ediv_of_nonneg→CS
open List renaming cons_append→AA,nil_append→AB,mem_cons_self→AE,mem_cons_of_mem→AF,getElem?_eq_getElem→AG,length_append→AH,length_cons→AJ,getElem?_eq_some_iff→AK,getD_eq_getElem?_getD→AM,mem_cons→AN,mem_map→AO,append_nil→AP,length_map→AQ,mem_append→AR,append_assoc→AV,mem_singleton→AX,map_append→AY,map_cons→AZ,mem_of_getElem?→A0,pairwise_map→A6,mem_range→A9,range→BA,pairwise_iff_getElem→BB,flatMap_cons→BC,getElem?_map→BH,pairwise_cons→BI,take_add_one→BP,mem_filter→BV,getElem?_eq_none→BW,replicate→BX,mem_flatMap→BZ,mem_iff_getElem→B0,flatMap_append→B9,pairwise_append→CB,nodup_append→CC,nodup_cons→CF,map_map→CH,getElem?_range→CK,map_nil→CL,mem_iff_getElem?→DA,mem_of_find?_eq_some→DD,ext_getElem?→DI,not_mem_nil→DP,getElem?_zip_eq_some→DR,range_succ→DT,find?_eq_none→D2,replicate_succ→D6
open List.Pairwise renaming nil→DJ,imp_of_mem→EA
open List.Perm renaming swap→CT,of_eq→DF
open Nat renaming reduceAdd→AD,le_refl→AI,zero_le→AT,succ_mul→BJ,lt_trichotomy→B5,add_zero→B6,eq_or_lt_of_le→EH
open Option.some renaming inj→BF
open Go.Proofs.Tryz
open Go.Value renaming int→Z9
open Go.IntKind renaming i64→Z8
namespace Go.Proofs.YtaofijjjheiknaaGreat
open Go.SL Go.Tup Go.Gr
def Ge (a b:T5):Bool:=decide (a.c1<b.c1∨a.c1=b.c1∧(a.c2<b.c2∨a.c2=b.c2∧a.c0<b.c0))
theorem Xd {a b:T5}:Ge a b=true↔a.c1<b.c1∨a.c1=b.c1∧(a.c2<b.c2∨a.c2=b.c2∧a.c0<b.c0):=decide_eq_true_iff
theorem jX:Go.Srt.Swo Ge where
 asym a b h:=by
  rw[Xd] at h;cases hb:Ge b a with
  |false=>rfl
  |true=>rw[Xd] at hb;omega
 ntrans a b c h1 h2:=by
  cases hc:Ge a c with
  |false=>rfl
  |true=>
   have n1:¬(Ge a b=true):=by rw[h1];decide
   have n2:¬(Ge b c=true):=by rw[h2];decide
   rw[Xd] at n1 n2 hc;omega
theorem eQ3:∀t:T5,tv t= .agg #[Z9 Z8 t.c0,Z9 Z8 t.c1,Z9 Z8 t.c2,Z9 Z8 t.c3,Z9 Z8 t.c4]:=fun _=>rfl
theorem wI (a b:T5):CtQ AC 212 [tv a,tv b] [] (.bool (Ge a b)):=by
 have aa:=eQ3;rw[aa,aa];by_cases h1:a.c1=b.c1
 ·by_cases h2:a.c2=b.c2
  ·have e:dec (a.c0<b.c0)=Ge a b:=by rw[Gh];unfold Ge;exact decide_eq_decide.2 oM
   refine cG func212 fun _=>?_;repeat(refine sA ?_;intros)
   (refine dP [] ?_;exact⟨congrArg Value.bool e,rfl⟩)
  ·have e:dec (a.c2<b.c2)=Ge a b:=by rw[Gh];unfold Ge;exact decide_eq_decide.2 oM
   refine cG func212 fun _=>?_;repeat(refine sA ?_;intros)
   (refine dP [] ?_;exact⟨congrArg Value.bool e,rfl⟩)
 ·have e:dec (a.c1<b.c1)=Ge a b:=by rw[Gh];unfold Ge;exact decide_eq_decide.2 oM
  refine cG func212 fun _=>?_;repeat(refine sA ?_;intros)
  (refine dP [] ?_;exact⟨congrArg Value.bool e,rfl⟩)
def PutR (l:List T5) (t:T5) (r:List T5):Prop:=∃A B,l=A++B∧r=A++t::B∧(∀b∈B,Ge t b=true)∧∀x,A.getLast? =some x→Ge t x=false
def Sa (l:List T5):Prop:=l.Pairwise fun a b=>Ge b a=false
theorem PutR.perm {l r:List T5} {t:T5} (h:PutR l t r):r.Perm (t::l):=by obtain⟨A,B,rfl,rfl,_⟩:=h;exact List.perm_middle
theorem PutR.sa {l r:List T5} {t:T5} (h:PutR l t r) (hs:Sa l):Sa r:=by
 obtain⟨A,B,rfl,rfl,hB,hA⟩:=h;unfold Sa at hs⊢;rw[CB] at hs⊢;have aa:∀a∈A,Ge t a=false:=by
  intro a ha;rcases List.eq_nil_or_concat A with rfl|⟨A',x,rfl⟩
  ·simp at ha
  ·rw[List.concat_eq_append] at*;have hx:=hA x oA19;rcases AR.1 ha with h|h
   ·have h1:=(CB.1 hs.1).2.2 a h x oA19;exact jX.ntrans _ _ _ hx h1
   ·simp only[AX] at h;subst h;exact hx
 rw[BI];exact⟨hs.1,⟨fun b hb=>jX.asym _ _ (hB b hb),hs.2.1⟩,fun a ha b hb=>by
  rcases AN.1 hb with rfl|hb
  ·exact aa a ha
  ·exact hs.2.2 a ha b hb⟩
structure PutX where
 kz:Int
 A:List T5
 B:List T5
theorem jY (p:Option Addr) (m cap:Nat) (l:List T5) (c:Aa) (hV:Vec 33 5 p m cap (flat l) c) (hm:m≤1000000) (t:T5):Ct AC 166 [.slice p m cap,tv t] [c] fun v H'=>∃p' cap' c' r,v= .slice p' (m+1) cap'∧H'=[c']∧Vec 33 5 p' (m+1) cap' (flat r) c'∧PutR l t r:=by
 have ae:=eQ3;have ag:=fun a b=>wI a b;have hl:l.length=m:=by have:=hV.1;rw[Sv] at this;omega
 have ao:m+1≤maxLen:=by simp only[maxLen];omega
 simp only[ae] at ag;rw[ae];refine cG func166 fun _=>?_;repeat(first|(refine st ?_;intros)|refine G.draw (id:=3) [(12,.quiet)] (h:=?_)|refine cq hL ?_)
 rename_i b3 b9 p' cap' c' ah;have aj:Vec 33 5 p' (m+1) cap' (flat (l++[t])) c':=by rw[flat_append];exact ah
 obtain⟨rb,re,rfl,rfl,ak,al,am⟩:=Un aj (Nat.succ_pos _);clear hV ah;rw[Sv,AH,List.length_singleton,hl] at ak;have hw:((m+1:Nat):Int)-1=(m:Int):=oM;refine G.loop (X:=PutX) (fun x=>x.A++x.B=l∧x.kz=(x.A.length:Int)∧∀u∈x.B,Ge t u=true)
  (fun x=>[(5,Z9 Z8 x.kz),(0,.slice (some ⟨rb,0,none⟩) (m+1) cap')])
  (fun x=>[[(rb,row (flat (x.A++t::x.B)++re) 33)]]) (fun x=>x.A.length) ⟨((m+1:Nat):Int)-1,l,[]⟩ ⟨by simp,oD,by simp⟩ (body:=?_)
 rintro⟨kz,A,B⟩ ⟨aa,ad,hB⟩;dsimp only at aa ad hB⊢;have ai:A.length+B.length=m:=by rw[←hl,←aa,AH]
 have ab:Vec 33 5 (some ⟨rb,0,none⟩) (m+1) cap' (flat (A++t::B)) [(rb,row (flat (A++t::B)++re) 33)]:=
  Vec.mk' rfl (by rw[Sv];simp;omega) (by rw[AH,Sv];simp;omega) al am
 rcases List.eq_nil_or_concat A with rfl|⟨A',x,rfl⟩
 ·have aq:kz=0:=by simpa using ad
  repeat(first|(refine st ?_;intros)|refine G.draw (id:=3) [(12,.quiet)] (h:=?_)|refine cq hL ?_)
  (refine dP [[(rb,row (flat ([]++t::B)++re) 33)]] ?_;exact⟨_,cap',_,_,rfl,rfl,ab,[],B,aa.symm,rfl,hB,by simp⟩)
 ·have au:kz=((A'.length+1:Nat):Int):=by simpa using ad
  have ek:kz.toNat=A'.length+1:=oM;have av:(kz-1).toNat=A'.length:=oM;have aw:A'.length+1+B.length=m:=by simpa using ai
  have ac:∀u v:T5,(A'++[u])++v::B=A'++u::v::B:=fun u v=>by simp
  rw[List.concat_eq_append] at*;rw[ac] at ab⊢;have c1:=t_cut (A'++[x]) B t re (k:=A'.length+1) oA19;have c2:=t_cut A' (t::B) x re rfl;have s1:=t_set (A'++[x]) B t x re (k:=A'.length+1) oA19;have s2:=t_set A' (x::B) x t re rfl;simp only[ac] at c1 s1;have l1:(A'.length+1)*5+5≤(flat (A'++x::t::B)++re).length:=by rw[AH,Sv];simp;omega
  have l2:(A'.length+1)*5+5≤(flat (A'++x::x::B)++re).length:=by rw[AH,Sv];simp;omega
  have hL:=ag t x;cases hxt:Ge t x with
  |true=>
   rw[hxt] at hL;generalize an:flat (A'++x::t::B)++re=r0 at*;generalize ax:flat (A'++x::x::B)++re=r1 at*;repeat(first|(refine st ?_;intros)|refine G.draw (id:=3) [(12,.quiet)] (h:=?_)|refine cq hL ?_)
   refine Dn.round ⟨kz-1,A',x::B⟩ ⟨by rw[←aa];simp,oD,fun u hu=>?_⟩ oA19;rcases AN.1 hu with rfl|hu
   ·exact hxt
   ·exact hB u hu
  |false=>
   rw[hxt] at hL;generalize an:flat (A'++x::t::B)++re=r0 at*;repeat(first|(refine st ?_;intros)|refine G.draw (id:=3) [(12,.quiet)] (h:=?_)|refine cq hL ?_)
   (refine dP [[(rb,row r0 33)]] ?_;exact⟨_,cap',_,A'++x::t::B,rfl,rfl,ab,A'++[x],B,aa.symm,by simp,hB,fun y hy=>by simp at hy;subst hy;exact hxt⟩)
def Lr (a:List T5) (t:T5):List T5:=[⟨2*t.c0,t.c1,t.c2,(at5 a t.c1.toNat).c1,0⟩,⟨2*t.c0+1,t.c2,t.c1,(at5 a t.c1.toNat).c1,0⟩]
def Ku (a f:List T5):List T5:=f.flatMap (Lr a)
theorem wJ {a f:List T5} {i:Nat} {t:T5} (h:f[i]? =some t):Ku a (f.take (i+1))=Ku a (f.take i)++Lr a t:=by unfold Ku;rw[BP,h];simp
structure ArX where
 i:Nat
 n:Nat
 p:Option Addr
 cap:Nat
 ch:Aa
 r:List T5
theorem wK (pa:Option Addr) (na ka:Nat) (a:List T5) (ca:Aa) (ac:RV pa na a ca) (pf:Option Addr) (nf kf:Nat) (f:List T5) (cf:Aa) (ad:RV pf nf f cf) (hn:nf≤100000) (a1:na≤1000000) (hf:∀t∈f,0≤t.c0∧t.c0≤1099511627776∧0≤t.c1∧t.c1<na):Ct AC 102 [.slice pa na ka,.slice pf nf kf] [ca,cf] fun v H'=>∃p cap c r,v= .slice p (2*nf) cap∧H'=[ca,cf,c]∧Vec 33 5 p (2*nf) cap (flat r) c∧r.Perm (Ku a f)∧Sa r:=by
 have a2:=ad.1;have a3:=ac.1;have ae:=eQ3;refine cG func102 fun _=>?_;repeat(refine sA ?_;intros)
 refine G.loop (X:=ArX) (fun x=>x.i≤nf∧x.n=2*x.i∧Vec 33 5 x.p x.n x.cap (flat x.r) x.ch∧x.r.Perm (Ku a (f.take x.i))∧Sa x.r)
  (fun x=>[(6,Z9 Z8 x.i),(5,.slice x.p x.n x.cap),(1,.slice pf nf kf),(0,.slice pa na ka)])
  (fun x=>[ca,cf,x.ch]) (fun x=>nf-x.i) ⟨0,0,none,0,[],[]⟩ ⟨AT _,rfl,Vec.nil _ _,by simp[Ku],DJ⟩ oA7 oA3 ?_
 rintro⟨i,n,p,cap,ch,r⟩ ⟨hi,ag,hV,hp,hs⟩;dsimp only at hi ag hV hp hs⊢;by_cases ao:i<nf
 ·obtain⟨b,off,cs,T,fz,rfl,rfl,_,aa⟩:=(RV.rw ad).pos Ds oM;have hit:f[i]? =some f[i]:=AG oM;have q0:=aa i 0 _ _ hit rfl;have q1:=aa i 1 _ _ hit rfl;have q2:=aa i 2 _ _ hit rfl;rw[B6] at q0;obtain⟨f1,f2,f3,f4⟩:=hf _ (A0 hit);have aq:=wJ (a:=a) hit;generalize ht:f[i]=t at*;obtain⟨u,hu⟩:∃u:Nat,t.c1=(u:Int):=⟨t.c1.toNat,oM⟩
  have au:t.c1.toNat=u:=oM;obtain⟨b2,a0,a4,T2,a5,rfl,rfl,_,ab⟩:=(RV.rw ac).pos Ds oM;have ah:a[u]? =some a[u]:=AG oM;have r1:=ab u 1 _ _ ah rfl;have ai:at5 a t.c1.toNat=a[u]:=by rw[au];unfold at5;rw[AM,ah];rfl
  generalize ha:a[u]=w at*;have e1:AL .i64 (2*t.c0)=2*t.c0:=Ah oM;have e2:AL .i64 (2*t.c0+1)=2*t.c0+1:=Ah oM;have hP:=jY p n cap r ch hV oM ⟨2*t.c0,t.c1,t.c2,w.c1,0⟩;rw[ae] at hP;repeat(refine sA ?_;intros)
  refine cL hP ?_;rintro _ _ ⟨p1,aj,av,aw,rfl,rfl,ax,ak⟩;try dsimp only[AA,AB]
  have al:=jY p1 (n+1) aj aw av ax oM ⟨2*t.c0+1,t.c2,t.c1,w.c1,0⟩;rw[ae] at al;repeat(refine sA ?_;intros)
  refine cL al ?_;rintro _ _ ⟨p2,am,ay,r2,rfl,rfl,az,an⟩;repeat(refine sA ?_;intros)
  refine Dn.round ⟨i+1,n+1+1,p2,am,ay,r2⟩ ⟨ao,oD,az,?_,an.sa (ak.sa hs)⟩ oD;dsimp only;rw[aq];unfold Lr;rw[ai];refine an.perm.trans (((ak.perm.trans (hp.cons _)).cons _).trans ?_);refine(CT _ _ _).trans ?_;exact List.perm_append_comm (l₁:=[_,_])
 ·obtain rfl:i=nf:=by omega
  rw[List.take_of_length_le oM] at hp;obtain rfl:=ag;repeat(refine sA ?_;intros)
  (refine dP [ca,cf,ch] ?_;exact⟨p,cap,ch,r,rfl,rfl,hV,hp,hs⟩)
def Ei (r:List T5):Nat→Nat
 |0=>0
 |k+1=>if(at5 r k).c1=(at5 r (k+1)).c1 then Ei r k else k+1
def Gg (r:List T5) (k:Nat):Nat:=if k+1<r.length∧(at5 r (k+1)).c1=(at5 r k).c1 then k+1 else Ei r k
theorem Dy {r:List T5} {k:Nat} (h:k<r.length):r[k]? =some (at5 r k):=by unfold at5;rw[AM,AG h];rfl
theorem jZ (r:List T5):∀k,Ei r k≤k
 |0=>AI _
 |k+1=>by unfold Ei;split;exact Nat.le_succ_of_le (jZ r k);exact AI _
theorem wL {r:List T5} {k:Nat} (h:k<r.length):Gg r k<r.length:=by
 unfold Gg;split
 ·omega
 ·have:=jZ r k;omega
theorem wM (p:Option Addr) (m cap:Nat) (r:List T5) (c:Aa) (hv:RV p m r c) (hm:m≤1000000) (k:Nat) (hk:k<m):CtQ AC 103 [.slice p m cap,Z9 Z8 k] [c] (Z9 Z8 (Gg r k:Int)):=by
 have hl:=hv.1;obtain⟨b,off,cs,T,fz,rfl,rfl,_,ab⟩:=(RV.rw hv).pos Ds oM;have hg:∀j,j<m→cs[off+j*5+1]? =some (Z9 Z8 (at5 r j).c1):=fun j hj=>ab j 1 _ _ (Dy oM) rfl;have q0:=hg k hk;have ek:((k:Int)+1).toNat=k+1:=oM;by_cases h1:k+1<m
 ·have q1:=hg (k+1) h1;by_cases h2:(at5 r (k+1)).c1=(at5 r k).c1
  ·have hb:Gg r k=k+1:=by unfold Gg;rw[if_pos ⟨oM,h2⟩]
   have ac:((Gg r k:Nat):Int)=(k:Int)+1:=oM;rw[ac];refine cG func103 fun w0=>?_;repeat(refine sv ?_;intros)
   (refine dP [[(b,Al cs T fz)]] ?_;exact⟨rfl,rfl⟩)
  ·have hb:Gg r k=Ei r k:=by unfold Gg;rw[if_neg (fun h=>h2 h.2)]
   rw[hb];refine cG func103 fun w0=>?_;repeat(refine sv ?_;intros)
   refine G.loop (X:=Int) (fun z=>0≤z∧z<(m:Int)∧Ei r z.toNat=Ei r k) (fun z=>[(1,Z9 Z8 z),(0,.slice (some ⟨b,off,none⟩) m cap)])
    (fun _=>[[(b,Al cs T fz)]]) (fun z=>z.toNat) (k:Int) ⟨oM,oM,by rw[AU]⟩ (body:=?_)
   rintro z ⟨z0,zm,hz⟩;obtain⟨j,rfl⟩:∃j:Nat,z=(j:Int):=⟨z.toNat,oM⟩
   have ej:((j:Int)).toNat=j:=AU j;rw[ej] at hz;cases j with
   |zero=>
    have hh:Ei r k=0:=by rw[←hz];rfl
    repeat(refine sv ?_;intros)
    (refine dP [[(b,Al cs T fz)]] ?_;exact⟨congrArg (Value.int .i64) oM,rfl⟩)
   |succ j=>
    have w0:=hg (j+1) oM;have w1:=hg j oM;have aa:(((j+1:Nat):Int)-1).toNat=j:=oM;have ad:((j+1:Nat):Int)-1=(j:Int):=oM;by_cases h3:(at5 r j).c1=(at5 r (j+1)).c1
    ·have hs:Ei r (j+1)=Ei r j:=by rw[Ei,if_pos h3]
     repeat(refine sv ?_;intros)
     refine Dn.round (((j+1:Nat):Int)-1) ⟨oM,oM,by rw[aa,←hz,hs]⟩ oM
    ·have hs:Ei r (j+1)=j+1:=by rw[Ei,if_neg h3]
     repeat(refine sv ?_;intros)
     (refine dP [[(b,Al cs T fz)]] ?_;exact⟨congrArg (Value.int .i64) oM,rfl⟩)
 ·have hb:Gg r k=Ei r k:=by unfold Gg;rw[if_neg (fun h=>h1 oM)]
  rw[hb];refine cG func103 fun w0=>?_;repeat(refine sv ?_;intros)
  refine G.loop (X:=Int) (fun z=>0≤z∧z<(m:Int)∧Ei r z.toNat=Ei r k) (fun z=>[(1,Z9 Z8 z),(0,.slice (some ⟨b,off,none⟩) m cap)])
   (fun _=>[[(b,Al cs T fz)]]) (fun z=>z.toNat) (k:Int) ⟨oM,oM,by rw[AU]⟩ (body:=?_)
  rintro z ⟨z0,zm,hz⟩;obtain⟨j,rfl⟩:∃j:Nat,z=(j:Int):=⟨z.toNat,oM⟩
  have ej:((j:Int)).toNat=j:=AU j;rw[ej] at hz;cases j with
  |zero=>
   have hh:Ei r k=0:=by rw[←hz];rfl
   repeat(refine sv ?_;intros)
   (refine dP [[(b,Al cs T fz)]] ?_;exact⟨congrArg (Value.int .i64) oM,rfl⟩)
  |succ j=>
   have w0:=hg (j+1) oM;have w1:=hg j oM;have aa:(((j+1:Nat):Int)-1).toNat=j:=oM;have ad:((j+1:Nat):Int)-1=(j:Int):=oM;by_cases h3:(at5 r j).c1=(at5 r (j+1)).c1
   ·have hs:Ei r (j+1)=Ei r j:=by rw[Ei,if_pos h3]
    repeat(refine sv ?_;intros)
    refine Dn.round (((j+1:Nat):Int)-1) ⟨oM,oM,by rw[aa,←hz,hs]⟩ oM
   ·have hs:Ei r (j+1)=j+1:=by rw[Ei,if_neg h3]
    repeat(refine sv ?_;intros)
    (refine dP [[(b,Al cs T fz)]] ?_;exact⟨congrArg (Value.int .i64) oM,rfl⟩)
def itF (f:Nat→Nat):Nat→Nat→Nat
 |0,x=>x
 |n+1,x=>f (itF f n x)
theorem Di {m:Nat} {f:Nat→Nat} (hf:∀k,k<m→f k<m) {i:Nat} (hi:i<m):∀n,itF f n i<m
 |0=>hi
 |n+1=>hf _ (Di hf hi n)
theorem Pg (f:Nat→Nat) (b x:Nat):∀a,itF f (a+b) x=itF f a (itF f b x)
 |0=>by rw[Nat.zero_add];rfl
 |a+1=>by rw[Nat.succ_add];show f _=f _;rw[Pg f b x a]
theorem Xe {m:Nat} {f:Nat→Nat} (hf:∀k,k<m→f k<m) (hj:∀a b,a<m→b<m→f a=f b→a=b) {x y:Nat} (hx:x<m) (hy:y<m):∀n,itF f n x=itF f n y→x=y
 |0,h=>h
 |n+1,h=>Xe hf hj hx hy n (hj _ _ (Di hf hx n) (Di hf hy n) h)
theorem bG {g:Nat→Nat}:∀{n:Nat},¬((BA n).map g).Nodup→∃a b,a<b∧b<n∧g a=g b
 |0,h=>(h oA19).elim
 |n+1,h=>by
  rw[DT,AY,CC] at h;by_cases h1:((BA n).map g).Nodup
  ·by_cases h2:g n∈(BA n).map g
   ·obtain⟨a,ha,he⟩:=AO.1 h2;exact⟨a,n,A9.1 ha,Nat.lt_succ_self n,he⟩
   ·refine(h ⟨h1,by simp,?_⟩).elim;intro x hx y hy e;simp only[AZ,CL,AX] at hy;subst hy;subst e;exact h2 hx
  ·obtain⟨a,b,h1,h2,h3⟩:=bG h1;exact⟨a,b,h1,Nat.lt_succ_of_lt h2,h3⟩
theorem wN {m:Nat} {f:Nat→Nat} (hf:∀k,k<m→f k<m) (hj:∀a b,a<m→b<m→f a=f b→a=b) {i:Nat} (hi:i<m):∃P,0<P∧P≤m∧itF f P i=i:=by
 have hn:¬((BA (m+1)).map fun n=>itF f n i).Nodup:=by
  intro h;have:=h.length_le_of_subset (l₂:=BA m) (by
   intro x hx;obtain⟨n,_,rfl⟩:=AO.1 hx;exact A9.2 (Di hf hi n))
  simp at this;omega
 obtain⟨a,b,h1,h2,h3⟩:=bG hn;refine⟨b-a,oM,oM,?_⟩;have h4:b=a+(b-a):=oM;rw[h4,Pg] at h3;exact(Xe hf hj hi (Di hf hi _) a h3).symm
def perF (f:Nat→Nat) (m i:Nat):Nat:=((BA m).find? fun n=>itF f (n+1) i==i).getD 0+1
theorem wO {m:Nat} {f:Nat→Nat} {i:Nat} (h:∃P,0<P∧P≤m∧itF f P i=i):0<perF f m i∧perF f m i≤m∧itF f (perF f m i) i=i∧∀n,0<n→n<perF f m i→itF f n i≠i:=by
 obtain⟨P,h0,hP,hi⟩:=h;unfold perF;cases hf:(BA m).find? fun n=>itF f (n+1) i==i with
 |none=>
  rw[D2] at hf;refine(hf (P-1) (A9.2 oM) ?_).elim;rw[show P-1+1=P by omega,hi];simp
 |some q=>
  rw[List.find?_range_eq_some] at hf;obtain⟨h1,h2,h3⟩:=hf;rw[A9] at h2;refine⟨Nat.succ_pos _,h2,by simpa using h1,?_⟩;intro n hn hq he;have:=h3 (n-1) (by simp only[Option.getD_some] at hq;omega);rw[show n-1+1=n by omega,he] at this;simp at this
theorem Xf {r:List T5} {k:Nat} (h:k<r.length):at5 r k∈r:=A0 (Dy h)
theorem Xg {r:List T5} {t:T5} (h:t∈r):∃k,k<r.length∧at5 r k=t:=by obtain⟨k,hk,rfl⟩:=B0.1 h;exact⟨k,hk,BF ((Dy hk).symm.trans (AG hk))⟩
theorem wP {r:List T5} (hs:Sa r) {i j:Nat} (aa:i<j) (hj:j<r.length):Ge (at5 r j) (at5 r i)=false:=by have h1:=Dy (Nat.lt_trans aa hj);have h2:=Dy hj;rw[AK] at h1 h2;obtain⟨_,h1⟩:=h1;obtain⟨_,h2⟩:=h2;rw[←h1,←h2];exact BB.1 hs i j _ _ aa
theorem Ph {r:List T5} (hs:Sa r) {i j:Nat} (aa:i≤j) (hj:j<r.length):(at5 r i).c1≤(at5 r j).c1:=by
 rcases EH aa with rfl|h
 ·exact Int.le_refl _
 ·have h1:=wP hs h hj;have h2:¬(Ge (at5 r j) (at5 r i)=true):=by rw[h1];decide
  rw[Xd] at h2;omega
theorem kA (r:List T5):∀k,(at5 r (Ei r k)).c1=(at5 r k).c1
 |0=>rfl
 |k+1=>by
  unfold Ei;split
  next h=>rw[kA r k,h]
  next=>rfl
theorem bH (r:List T5):∀{k j:Nat},Ei r k=j+1→(at5 r j).c1≠(at5 r (j+1)).c1
 |0,j,h=>by unfold Ei at h;omega
 |k+1,j,h=>by
  unfold Ei at h;split at h
  next=>exact bH r h
  next hne=>
        obtain rfl:k=j:=by omega
        exact hne
theorem bI (r:List T5) (k:Nat):(at5 r (Gg r k)).c1=(at5 r k).c1:=by
 unfold Gg;split
 next h=>exact h.2
 next=>exact kA r k
theorem wQ {r:List T5} (hs:Sa r) {a b:Nat} (ha:a<r.length) (hb:b<r.length) (h:Gg r a=Gg r b):a=b:=by
 have hc:(at5 r a).c1=(at5 r b).c1:=by rw[←bI r a,←bI r b,h]
 unfold Gg at h;split at h
 next h1=>
  split at h
  next h2=>omega
  next h2=>exact absurd h1.2.symm (bH r h.symm)
 next h1=>
  split at h
  next h2=>exact absurd h2.2.symm (bH r h)
  next h2=>
   rcases B5 a b with h3|h3|h3
   ·have e1:=Ph hs (show a≤a+1 by omega) (show a+1<r.length by omega);have e2:=Ph hs (show a+1≤b from h3) hb;exact absurd ⟨oM,oM⟩ h1
   ·exact h3
   ·have e1:=Ph hs (show b≤b+1 by omega) (show b+1<r.length by omega);have e2:=Ph hs (show b+1≤a from h3) ha;exact absurd ⟨oM,oM⟩ h2
def Fa (r:List T5) (k:Nat):Nat:=((BA r.length).find? fun i=>decide (i≠k∧(at5 r i).c0.tdiv 2=(at5 r k).c0.tdiv 2)).getD k
theorem Nf {r:List T5} {k:Nat} (h:k<r.length):Fa r k<r.length:=by
 unfold Fa;cases hf:(BA r.length).find? fun i=>decide (i≠k∧(at5 r i).c0.tdiv 2=(at5 r k).c0.tdiv 2) with
 |none=>exact h
 |some q=>exact A9.1 (DD hf)
structure Cp (a f r:List T5):Prop where
 perm:r.Perm (Ku a f)
 sa:Sa r
 nd:(f.map (·.c0)).Nodup
 pos:∀t∈f,0≤t.c0
def Fb (x:Int):Int:=if x%2=0 then x+1 else x-1
theorem bJ:∀{f:List T5},(f.map (·.c0)).Nodup→∀(a:List T5),((Ku a f).map (·.c0)).Nodup
 |[],_,_=>by simp[Ku]
 |t::f,h,a=>by
  rw[AZ,CF] at h;have ih:=bJ h.2 a;have hm:∀x∈Ku a f,∃e∈f,x.c0=2*e.c0∨x.c0=2*e.c0+1:=by
   intro x hx;obtain⟨e,he,hx⟩:=BZ.1 hx;refine⟨e,he,?_⟩;simp only[Lr,AN,DP,or_false] at hx;rcases hx with rfl|rfl
   ·exact .inl rfl
   ·exact .inr rfl
  have aa:∀e∈f,e.c0≠t.c0:=fun e he hq=>h.1 (AO.2 ⟨e,he,hq⟩);unfold Ku at ih hm⊢;rw[BC,AY,CC];refine⟨by simp[Lr];omega,ih,?_⟩;intro x hx y hy e;subst e;obtain⟨z,hz,ab⟩:=AO.1 hy;obtain⟨e,he,h1⟩:=hm z hz;have:=aa e he;simp only[Lr,AZ,CL,AN,DP,or_false] at hx;omega
namespace Cp
variable {a f r:List T5}
theorem edge (A:Cp a f r) {k:Nat} (h:k<r.length):∃e∈f,at5 r k=⟨2*e.c0,e.c1,e.c2,(at5 a e.c1.toNat).c1,0⟩∨at5 r k=⟨2*e.c0+1,e.c2,e.c1,(at5 a e.c1.toNat).c1,0⟩:=by obtain⟨e,he,hx⟩:=BZ.1 (A.perm.mem_iff.1 (Xf h));refine⟨e,he,?_⟩;simpa only[Lr,AN,DP,or_false] using hx
theorem arc (A:Cp a f r) {e t:T5} (he:e∈f) (ht:t∈Lr a e):∃k,k<r.length∧at5 r k=t:=Xg (A.perm.mem_iff.2 (BZ.2 ⟨e,he,ht⟩))
theorem num (A:Cp a f r) {i j:Nat} (hi:i<r.length) (hj:j<r.length) (h:(at5 r i).c0=(at5 r j).c0):i=j:=by have hn:(r.map (·.c0)).Nodup:=(A.perm.map _).nodup_iff.2 (bJ A.nd a);have h1:=Dy hi;have h2:=Dy hj;rw[AK] at h1 h2;obtain⟨_,h1⟩:=h1;obtain⟨_,h2⟩:=h2;refine(List.getElem_inj (h₀:=by simpa using hi) (h₁:=by simpa using hj) hn).1 ?_;rw[List.getElem_map,List.getElem_map,h1,h2,h]
theorem bro (A:Cp a f r) {k:Nat} (h:k<r.length):(at5 r (Fa r k))=⟨Fb (at5 r k).c0,(at5 r k).c2,(at5 r k).c1,(at5 r k).c3,0⟩:=by
 obtain⟨e,he,hk⟩:=A.edge h;have an:=A.pos e he;have ac:∀x:Int,0≤x→x.tdiv 2=x/2:=fun x hx=>CS hx;have ab:∀{j:Nat},j<r.length→0≤(at5 r j).c0:=by intro j hj;obtain⟨e',aj,ad⟩:=A.edge hj;have:=A.pos e' aj;rcases ad with ad|ad<;>rw[ad]<;>dsimp only<;>omega
 obtain⟨j,hj,aa⟩:∃j,j<r.length∧at5 r j=⟨Fb (at5 r k).c0,(at5 r k).c2,(at5 r k).c1,(at5 r k).c3,0⟩:=by
  rcases hk with hk|hk
  ·obtain⟨j,hj,aa⟩:=A.arc he (t:=⟨2*e.c0+1,e.c2,e.c1,(at5 a e.c1.toNat).c1,0⟩) (by simp[Lr]);refine⟨j,hj,?_⟩;have:Fb (2*e.c0)=2*e.c0+1:=by unfold Fb;rw[if_pos oM]
   rw[aa,hk];dsimp only;rw[this]
  ·obtain⟨j,hj,aa⟩:=A.arc he (t:=⟨2*e.c0,e.c1,e.c2,(at5 a e.c1.toNat).c1,0⟩) (by simp[Lr]);refine⟨j,hj,?_⟩;have:Fb (2*e.c0+1)=2*e.c0:=by unfold Fb;rw[if_neg oM];omega
   rw[aa,hk];dsimp only;rw[this]
 have ae:(at5 r j).c0=Fb (at5 r k).c0:=by rw[aa]
 have ah:=ab h;have ak:=ab hj;have al:j≠k:=by rintro rfl;unfold Fb at ae;split at ae<;>omega
 have ai:(at5 r j).c0.tdiv 2=(at5 r k).c0.tdiv 2:=by rw[ac _ ah,ac _ ak,ae];unfold Fb;split<;>omega
 have ag:∀i,i<r.length→i≠k→(at5 r i).c0.tdiv 2=(at5 r k).c0.tdiv 2→i=j:=by intro i hi am hd;rw[ac _ ah,ac _ (ab hi)] at hd;refine A.num hi hj ?_;have hn:(at5 r i).c0≠(at5 r k).c0:=fun hq=>am (A.num hi h hq);rw[ae];unfold Fb;split<;>omega
 have hb:Fa r k=j:=by
  unfold Fa;cases hf:(BA r.length).find? fun i=>decide (i≠k∧(at5 r i).c0.tdiv 2=(at5 r k).c0.tdiv 2) with
  |none=>
   rw[D2] at hf;exact(hf j (A9.2 hj) (decide_eq_true ⟨al,ai⟩)).elim
  |some q=>
   have h1:=List.find?_some hf;have h2:=A9.1 (DD hf);have h3:=of_decide_eq_true h1;exact ag q h2 h3.1 h3.2
 rw[hb,aa]
theorem bro_inj (A:Cp a f r) {x y:Nat} (hx:x<r.length) (hy:y<r.length) (h:Fa r x=Fa r y):x=y:=by have h1:=A.bro hx;have h2:=A.bro hy;rw[h,h2] at h1;have h3:=congrArg T5.c0 h1;dsimp only at h3;refine A.num hx hy ?_;unfold Fb at h3;split at h3<;>split at h3<;>omega
end Cp
def Ay (r:List T5) (k:Nat):Nat:=Gg r (Fa r k)
theorem Dp {r:List T5} (k:Nat) (h:k<r.length):Ay r k<r.length:=wL (Nf h)
theorem Cp.sig_inj {a f r:List T5} (A:Cp a f r) (x y:Nat) (hx:x<r.length) (hy:y<r.length) (h:Ay r x=Ay r y):x=y:=A.bro_inj hx hy (wQ A.sa (Nf hx) (Nf hy) h)
theorem Cp.sig_from {a f r:List T5} (A:Cp a f r) {k:Nat} (h:k<r.length):(at5 r (Ay r k)).c1=(at5 r k).c2:=by unfold Ay;rw[bI,A.bro h]
def Ca (r:List T5) (i:Nat):Nat:=perF (Ay r) r.length i
def Dq (r:List T5) (i n:Nat):T5:={at5 r (itF (Ay r) n i) with c4:=(n:Int)}
def Ls (r:List T5) (i:Nat):List T5:=(BA (Ca r i)).map (Dq r i)
def Fc (r:List T5) (i:Nat):Bool:=decide ((at5 r i).c1=(at5 r i).c3∧(0<i→(at5 r (i-1)).c1≠(at5 r i).c1))
def Gx (r:List T5) (n:Nat):List T5:=(BA n).flatMap fun i=>if Fc r i then Ls r i else[]
def Ke (r:List T5):List T5:=Gx r r.length
theorem Xh (r:List T5) (n:Nat):Gx r (n+1)=Gx r n++if Fc r n then Ls r n else[]:=by unfold Gx;rw[DT,B9];simp
theorem Cp.per {a f r:List T5} (A:Cp a f r) {i:Nat} (h:i<r.length):0<Ca r i∧Ca r i≤r.length∧itF (Ay r) (Ca r i) i=i∧∀n,0<n→n<Ca r i→itF (Ay r) n i≠i:=wO (wN Dp A.sig_inj h)
theorem bK (r:List T5) (i:Nat):(Ls r i).length=Ca r i:=by unfold Ls;simp
theorem Cp.to_len {a f r:List T5} (A:Cp a f r):∀{n:Nat},n≤r.length→(Gx r n).length≤n*r.length
 |0,_=>by simp[Gx]
 |n+1,h=>by
  have ih:=A.to_len (n:=n) oM;have hp:=(A.per (i:=n) oM).2.1;rw[Xh,AH,BJ];split
  ·rw[bK];omega
  ·simp only[List.length_nil];omega
def Ng (r:List T5) (n:Nat):List Nat:=(BA n).flatMap fun i=>if Fc r i then(BA (Ca r i)).map fun k=>itF (Ay r) k i else[]
theorem bL (r:List T5) (n:Nat):Ng r (n+1)=Ng r n++if Fc r n then(BA (Ca r n)).map (fun k=>itF (Ay r) k n) else[]:=by unfold Ng;rw[DT,B9];simp
theorem kC (r:List T5):∀n,(Ng r n).length=(Gx r n).length
 |0=>rfl
 |n+1=>by
  rw[bL,Xh,AH,AH,kC r n];split
  ·rw[bK];simp
  ·rfl
theorem bM {r:List T5} {n x:Nat} (h:x∈Ng r n):∃i,i<n∧Fc r i=true∧∃k,k<Ca r i∧x=itF (Ay r) k i:=by
 obtain⟨i,hi,hx⟩:=BZ.1 h;split at hx
 next hr=>
  obtain⟨k,hk,rfl⟩:=AO.1 hx;exact⟨i,A9.1 hi,hr,k,A9.1 hk,rfl⟩
 next=>simp at hx
namespace Cp
variable {a f r:List T5}
theorem lab (A:Cp a f r) (hl:∀e∈f,(at5 a e.c1.toNat).c1=(at5 a e.c2.toNat).c1) {k:Nat} (h:k<r.length):(at5 r k).c3=(at5 a (at5 r k).c1.toNat).c1:=by
 obtain⟨e,he,hk|hk⟩:=A.edge h
 ·rw[hk]
 ·rw[hk];exact hl e he
theorem sig_lab (A:Cp a f r) (hl:∀e∈f,(at5 a e.c1.toNat).c1=(at5 a e.c2.toNat).c1) {k:Nat} (h:k<r.length):(at5 r (Ay r k)).c3=(at5 r k).c3:=by have h1:=A.lab hl (Dp k h);have h2:=A.lab hl (Nf h);rw[A.bro h] at h2;dsimp only at h2;rw[h1,A.sig_from h,h2]
theorem it_lab (A:Cp a f r) (hl:∀e∈f,(at5 a e.c1.toNat).c1=(at5 a e.c2.toNat).c1) {i:Nat} (h:i<r.length):∀k,(at5 r (itF (Ay r) k i)).c3=(at5 r i).c3
 |0=>rfl
 |k+1=>by show(at5 r (Ay r (itF (Ay r) k i))).c3=_;rw[A.sig_lab hl (Di Dp h k),A.it_lab hl h k]
theorem root_uniq (A:Cp a f r) {i j:Nat} (ac:i<j) (hj:j<r.length) (aa:Fc r i=true) (ab:Fc r j=true):(at5 r i).c3≠(at5 r j).c3:=by intro h;unfold Fc at aa ab;obtain⟨i1,_⟩:=of_decide_eq_true aa;obtain⟨j1,j2⟩:=of_decide_eq_true ab;have e1:=Ph A.sa (show i≤j-1 by omega) oM;have e2:=Ph A.sa (show j-1≤j by omega) hj;exact j2 oM oM
theorem idx_nodup (A:Cp a f r) (hl:∀e∈f,(at5 a e.c1.toNat).c1=(at5 a e.c2.toNat).c1):∀{n:Nat},n≤r.length→(Ng r n).Nodup
 |0,_=>by simp[Ng]
 |n+1,h=>by
  rw[bL,CC];obtain⟨P0,P1,P2,P3⟩:=A.per (i:=n) oM;refine⟨A.idx_nodup hl oM,?_,?_⟩
  ·split
   ·by_cases hn:((BA (Ca r n)).map fun k=>itF (Ay r) k n).Nodup
    ·exact hn
    ·obtain⟨x,y,h1,h2,h3⟩:=bG hn;rw[show y=x+(y-x) by omega,Pg] at h3;have:=Xe (f:=Ay r) Dp A.sig_inj (show n<r.length by omega) (Di Dp oM _) x h3;exact(P3 (y-x) oM oM this.symm).elim
   ·simp
  ·intro x hx y hy aa;subst aa;split at hy
   next hr=>
    obtain⟨k,_,hk⟩:=AO.1 hy;obtain⟨i,hi,ab,k2,_,ac⟩:=bM hx;refine A.root_uniq hi oM ab hr ?_;rw[←A.it_lab hl (show i<r.length by omega) k2,←ac,←hk,A.it_lab hl oM k]
   next=>simp at hy
theorem tours_len (A:Cp a f r) (hl:∀e∈f,(at5 a e.c1.toNat).c1=(at5 a e.c2.toNat).c1):(Ke r).length≤r.length:=by
 unfold Ke;rw[←kC];have:=(A.idx_nodup hl (AI _)).length_le_of_subset (l₂:=BA r.length) (by
  intro x hx;obtain⟨i,hi,_,k,_,rfl⟩:=bM hx;exact A9.2 (Di Dp hi k))
 simpa using this
end Cp
theorem wR {r:List T5} {k i:Nat} (hi:i<r.length) (aa:∀j,j<i→¬(j≠k∧(at5 r j).c0.tdiv 2=(at5 r k).c0.tdiv 2)) (h:i≠k∧(at5 r i).c0.tdiv 2=(at5 r k).c0.tdiv 2):Fa r k=i:=by
 unfold Fa;have:(BA r.length).find? (fun i=>decide (i≠k∧(at5 r i).c0.tdiv 2=(at5 r k).c0.tdiv 2))=some i:=by rw[List.find?_range_eq_some];refine⟨decide_eq_true h,A9.2 hi,fun j hj=>?_⟩;have h2:=aa j hj;rw[Bool.not_eq_true'];exact decide_eq_false h2
 rw[this];rfl
theorem wS {r:List T5} {k:Nat} (aa:∀j,j<r.length→¬(j≠k∧(at5 r j).c0.tdiv 2=(at5 r k).c0.tdiv 2)):Fa r k=k:=by
 unfold Fa;have:(BA r.length).find? (fun i=>decide (i≠k∧(at5 r i).c0.tdiv 2=(at5 r k).c0.tdiv 2))=none:=by rw[D2];intro j hj hd;exact aa j (A9.1 hj) (of_decide_eq_true hd)
 rw[this];rfl
theorem wT (p:Option Addr) (m cap:Nat) (r:List T5) (c:Aa) (hv:RV p m r c) (hm:m≤1000000) (hc:∀t∈r,0≤t.c0∧t.c0≤4398046511104) (k:Nat) (hk:k<m):CtQ AC 104 [.slice p m cap,Z9 Z8 k] [c] (Z9 Z8 (Fa r k:Int)):=by
 have hl:=hv.1;obtain⟨b,off,cs,T,fz,rfl,rfl,_,ad⟩:=(RV.rw hv).pos Ds oM;have hg:∀j,j<m→cs[off+j*5]? =some (Z9 Z8 (at5 r j).c0):=fun j hj=>by have:=ad j 0 _ _ (Dy oM) rfl;rwa[B6] at this
 have hd:∀j,j<m→AL .i64 ((at5 r j).c0.tdiv 2)=(at5 r j).c0.tdiv 2:=fun j hj=>by have:=hc _ (Xf (r:=r) (k:=j) oM);have e:=CS (b:=2) this.1;rw[e];exact Ah oM
 have q0:=hg k hk;have d0:=hd k hk;refine cG func104 fun _=>?_;repeat(refine sA ?_;intros)
 refine G.loop (X:=Nat) (fun i=>i≤m∧∀j,j<i→¬(j≠k∧(at5 r j).c0.tdiv 2=(at5 r k).c0.tdiv 2)) (fun i=>[(5,Z9 Z8 i),(1,Z9 Z8 k),(0,.slice (some ⟨b,off,none⟩) m cap)])
  (fun _=>[[(b,Al cs T fz)]]) (fun i=>m-i) 0 ⟨AT _,fun j hj=>absurd hj (Nat.not_lt_zero j)⟩ (body:=?_)
 rintro i ⟨hi,aa⟩;by_cases ab:i<m
 ·have q1:=hg i ab;have d1:=hd i ab;by_cases ae:i=k
  ·subst ae;repeat(refine sA ?_;intros)
   refine Dn.round (i+1) ⟨ab,fun j hj h=>?_⟩ oM;by_cases ac:j=i
   ·exact h.1 ac
   ·exact aa j oM h
  ·by_cases hq:(at5 r i).c0.tdiv 2=(at5 r k).c0.tdiv 2
   ·have hb:=wR oM aa ⟨ae,hq⟩;repeat(refine sA ?_;intros)
    (refine dP [[(b,Al cs T fz)]] ?_;exact⟨congrArg (Value.int .i64) oM,rfl⟩)
   ·repeat(refine sA ?_;intros)
    refine Dn.round (i+1) ⟨ab,fun j hj h=>?_⟩ oM;by_cases ac:j=i
    ·subst ac;exact hq h.2
    ·exact aa j oM h
 ·obtain rfl:i=m:=by omega
  have hb:=wS (r:=r) (k:=k) (fun j hj=>aa j oM);repeat(refine sA ?_;intros)
  (refine dP [[(b,Al cs T fz)]] ?_;exact⟨congrArg (Value.int .i64) oM,rfl⟩)
structure ToX where
 i:Nat
 n:Nat
 p:Option Addr
 cap:Nat
 ch:Aa
structure TuX where
 k:Nat
 n:Nat
 p:Option Addr
 cap:Nat
 ch:Aa
theorem Cp.c0le {a f r:List T5} (A:Cp a f r) {M:Int} (hf:∀t∈f,t.c0≤M):∀t∈r,0≤t.c0∧t.c0≤2*M+1:=by intro t ht;obtain⟨k,hk,rfl⟩:=Xg ht;obtain⟨e,he,h⟩:=A.edge hk;have h1:=hf e he;have h2:=A.pos e he;rcases h with h|h<;>rw[h]<;>dsimp only<;>omega
theorem wU (pa:Option Addr) (na ka:Nat) (a:List T5) (ca:Aa) (au:RV pa na a ca) (pf:Option Addr) (nf kf:Nat) (f:List T5) (cf:Aa) (av:RV pf nf f cf) (hn:nf≤1000) (aw:na≤1000000) (hf:∀t∈f,0≤t.c0∧t.c0≤1099511627776∧0≤t.c1∧t.c1<na) (ax:(f.map (·.c0)).Nodup):Ct AC 44 [.slice pa na ka,.slice pf nf kf] [ca,cf] fun v H'=>∃p n cap c r,v= .slice p n cap∧H'=[ca,cf,c]∧n=(Ke r).length∧Vec 33 5 p n cap (flat (Ke r)) c∧Cp a f r∧r.length=2*nf:=by
 have bf:=eQ3;have hA:=wK pa na ka a ca au pf nf kf f cf av oM aw hf;refine cG func44 fun _=>?_;repeat(first|(refine sv ?_;intros)|refine cq hBr ?_|refine cq hBe ?_)
 refine cL hA ?_;rintro _ _ ⟨q,ab,qc,r,rfl,rfl,hQ,hp,hs⟩;try dsimp only[AA,AB]
 have A:Cp a f r:=⟨hp,hs,ax,fun t ht=>(hf t ht).1⟩
 have ae:RV q (2*nf) r qc:=RV.vec hQ;have ai:r.length=2*nf:=ae.1;have ay:=A.c0le (M:=1099511627776) (fun t ht=>(hf t ht).2.1);clear hQ;repeat(first|(refine sv ?_;intros)|refine cq hBr ?_|refine cq hBe ?_)
 refine G.loop (X:=ToX) (fun x=>x.i≤2*nf∧x.n=(Gx r x.i).length∧Vec 33 5 x.p x.n x.cap (flat (Gx r x.i)) x.ch)
  (fun x=>[(7,Z9 Z8 x.i),(6,.slice x.p x.n x.cap),(5,.slice q (2*nf) ab)])
  (fun x=>[ca,cf,qc,x.ch]) (fun x=>2*nf-x.i) ⟨0,0,none,0,[]⟩ ⟨AT _,rfl,Vec.nil _ _⟩ oA7 oA3 ?_
 rintro⟨i,n,p,cap,ch⟩ ⟨hi,ad,hV⟩;dsimp only at hi ad hV⊢;by_cases ag:i<2*nf;rotate_left
 ·obtain rfl:i=2*nf:=by omega
  have aj:Gx r (2*nf)=Ke r:=by unfold Ke;rw[ai]
  rw[aj] at hV ad;repeat(first|(refine sv ?_;intros)|refine cq hBr ?_|refine cq hBe ?_)
  (refine dP [ca,cf,ch] ?_;exact⟨p,n,cap,ch,r,rfl,rfl,ad,hV,A,ai⟩)
 obtain⟨b,off,cs,T,fz,rfl,rfl,ak,al⟩:=(RV.rw ae).pos Ds oM;have hg:∀j k v,j<2*nf→(Ak (at5 r j))[k]? =some v→cs[off+j*5+k]? =some v:=fun j k v hj hv=>al j k _ _ (Dy oM) hv;have q1:=hg i 1 _ ag rfl;have q3:=hg i 3 _ ag rfl;have ac:=Xh r i;have az:=A.to_len (n:=i) oM;have bg:n≤4000000:=by have h1:i*r.length≤2000*2000:=Nat.mul_le_mul oM oM;omega
 by_cases aa:Fc r i=true
 ·rw[if_pos aa] at ac;have hr:=aa;unfold Fc at hr;obtain⟨bh,a0⟩:=of_decide_eq_true hr;have hq:i=0∨(0<i∧cs[off+(i-1)*5+1]? =some (Z9 Z8 (at5 r (i-1)).c1)∧(at5 r (i-1)).c1≠(at5 r i).c1):=by
   rcases Nat.eq_zero_or_pos i with hz|hz
   ·exact .inl hz
   ·exact .inr ⟨hz,hg (i-1) 1 _ oM rfl,a0 hz⟩
  obtain⟨P0,P1,P2,P3⟩:=A.per (i:=i) oM;have a1:Ca r i=(Ls r i).length:=(bK r i).symm;have hBr:∀k,k<2*nf→CtQ AC 104 [.slice (some ⟨b,off,none⟩) (2*nf) ab,Z9 Z8 k] [[(b,Al cs T fz)]] (Z9 Z8 (Fa r k:Int)):=fun k hk=>wT _ _ _ r _ ae oM (fun t ht=>by have:=ay t ht;omega) k hk;have hBe:∀k,k<2*nf→CtQ AC 103 [.slice (some ⟨b,off,none⟩) (2*nf) ab,Z9 Z8 k] [[(b,Al cs T fz)]] (Z9 Z8 (Gg r k:Int)):=fun k hk=>wM _ _ _ r _ ae oM k hk;have a2:∀k,k<2*nf→Fa r k<2*nf:=fun k hk=>by have:=Nf (r:=r) (k:=k) oM;omega
  have a3:∀k,itF (Ay r) k i<2*nf:=fun k=>by have:=Di (f:=Ay r) (m:=r.length) Dp (i:=i) oM k;omega
  have ei:((i:Int)-1).toNat=i-1:=oM;obtain hz|⟨hz,a4,a5⟩:=hq;all_goals
   repeat(first|(refine sv ?_;intros)|refine cq hBr ?_|refine cq hBe ?_)
   refine G.loop (X:=TuX) (fun x=>x.k≤Ca r i∧x.n=n+x.k∧Vec 33 5 x.p x.n x.cap (flat (Gx r i++(BA x.k).map (Dq r i))) x.ch)
    (fun x=>[(9,Z9 Z8 x.k),(8,Z9 Z8 (itF (Ay r) x.k i:Int)),(7,Z9 Z8 i),(6,.slice x.p x.n x.cap),(5,.slice (some ⟨b,off,none⟩) (2*nf) ab)])
    (fun x=>[ca,cf,[(b,Al cs T fz)],x.ch]) (fun x=>Ca r i-x.k) ⟨0,n,p,cap,ch⟩ ⟨AT _,rfl,by simpa using hV⟩ (body:=?_)
   rintro⟨k,m,p2,am,a6⟩ ⟨hk,hm,an⟩;dsimp only at hk hm an⊢;by_cases ao:k<Ca r i
   ·have a7:k=0∨(0<k∧itF (Ay r) k i≠i):=by
     rcases Nat.eq_zero_or_pos k with h|h
     ·exact .inl h
     ·exact .inr ⟨h,P3 k h ao⟩
    have a8:=a3 k;have bi:=a2 _ a8;have c5:(cs.drop (off+itF (Ay r) k i*5)).take 5=[Z9 Z8 (at5 r (itF (Ay r) k i)).c0,Z9 Z8 (at5 r (itF (Ay r) k i)).c1,Z9 Z8 (at5 r (itF (Ay r) k i)).c2,Z9 Z8 (at5 r (itF (Ay r) k i)).c3,Z9 Z8 (at5 r (itF (Ay r) k i)).c4]:=ak _ _ (Dy oM);have bk:m+1≤maxLen:=by simp only[maxLen];omega
    have a9:flat (Gx r i++(BA (k+1)).map (Dq r i))=flat (Gx r i++(BA k).map (Dq r i))++[Z9 Z8 (at5 r (itF (Ay r) k i)).c0,Z9 Z8 (at5 r (itF (Ay r) k i)).c1,Z9 Z8 (at5 r (itF (Ay r) k i)).c2,Z9 Z8 (at5 r (itF (Ay r) k i)).c3,Z9 Z8 k]:=by rw[DT,AY,←AV,flat_append];rfl
    obtain aq|⟨aq,bp⟩:=a7;all_goals
     repeat(first|(refine sv ?_;intros)|refine cq hBr ?_|refine cq hBe ?_)
     rename_i p' ah c' bc;have be:Vec 33 5 p' (m+1) ah (flat (Gx r i++(BA (k+1)).map (Dq r i))) c':=by rw[a9];exact bc
     refine Dn.round ⟨k+1,m+1,p',ah,c'⟩ ⟨ao,oD,be⟩ oD
   ·obtain rfl:k=Ca r i:=by omega
    have aq:Ca r i≠0:=oM;subst hm;repeat(first|(refine sv ?_;intros)|refine cq hBr ?_|refine cq hBe ?_)
    refine Dn.round ⟨i+1,n+Ca r i,p2,am,a6⟩ ⟨ag,by dsimp only;rw[ac,AH,←a1,←ad],?_⟩ oD;dsimp only;rw[ac];exact an
 ·rw[if_neg aa,AP] at ac;have hr:¬((at5 r i).c1=(at5 r i).c3∧(0<i→(at5 r (i-1)).c1≠(at5 r i).c1)):=fun h=>aa (by unfold Fc;exact decide_eq_true h);have hq:(at5 r i).c1≠(at5 r i).c3∨((at5 r i).c1=(at5 r i).c3∧0<i∧cs[off+(i-1)*5+1]? =some (Z9 Z8 (at5 r (i-1)).c1)∧(at5 r (i-1)).c1=(at5 r i).c1):=by
   by_cases h1:(at5 r i).c1=(at5 r i).c3
   ·refine .inr ⟨h1,?_⟩;rcases Nat.eq_zero_or_pos i with hz|hz
    ·exact(hr ⟨h1,fun h=>by omega⟩).elim
    ·refine⟨hz,hg (i-1) 1 _ oM rfl,?_⟩;by_cases h2:(at5 r (i-1)).c1=(at5 r i).c1
     ·exact h2
     ·exact(hr ⟨h1,fun _=>h2⟩).elim
   ·exact .inl h1
  have ei:((i:Int)-1).toNat=i-1:=oM;obtain hz|⟨h0,hz,a4,a5⟩:=hq;all_goals
   repeat(first|(refine sv ?_;intros)|refine cq hBr ?_|refine cq hBe ?_)
   refine Dn.round ⟨i+1,n,p,cap,ch⟩ ⟨ag,by dsimp only;rw[ac,ad],by dsimp only;rw[ac];exact hV⟩ oD
end Go.Proofs.YtaofijjjheiknaaGreat
namespace Go.Gr
variable {g:Nat→Ed} {S S':Nat→Prop}
def Mn (g:Nat→Ed) (S:Nat→Prop) (v:Nat):Prop:=∀u,u<v→¬Cn g S u v
theorem Us {p:Nat→Prop}:∀{n:Nat},p n→∃m,m≤n∧p m∧∀k,k<m→¬p k:=by
 intro n;induction n using Nat.strongRecOn with
 |ind n ih=>
  intro h;by_cases hx:∃k,k<n∧p k
  ·obtain⟨k,hk,aa⟩:=hx;obtain⟨m,hm,h1,h2⟩:=ih k hk aa;exact⟨m,oM,h1,h2⟩
  ·exact⟨n,Nat.le_refl _,h,fun k hk hp=>hx ⟨k,hk,hp⟩⟩
theorem Mn.of (g:Nat→Ed) (S:Nat→Prop) (x:Nat):∃m,m≤x∧Cn g S m x∧Mn g S m:=by obtain⟨m,h1,h2,h3⟩:=Us (p:=fun u=>Cn g S u x) (n:=x) (.refl x);exact⟨m,h1,h2,fun u hu hc=>h3 u hu (hc.trans h2)⟩
theorem Mn.uniq {a b:Nat} (ha:Mn g S a) (hb:Mn g S b) (h:Cn g S a b):a=b:=by
 rcases Nat.lt_trichotomy a b with h1|h1|h1
 ·exact(hb a h1 h).elim
 ·exact h1
 ·exact(ha b h1 h.symm).elim
theorem Mn.le {a b:Nat} (ha:Mn g S a) (h:Cn g S a b):a≤b:=by
 rcases Nat.lt_or_ge b a with h1|h1
 ·exact(ha b h1 h.symm).elim
 ·exact h1
theorem wV {p q:Nat→Bool} {c:Nat}:∀{n:Nat},(∀v,v<n→(q v=true↔p v=true∧v≠c))→p c=true→c<n→((List.range n).filter q).length+1=((List.range n).filter p).length:=by
 have same:∀{n:Nat},(∀v,v<n→(q v=true↔p v=true∧v≠c))→n≤c→((List.range n).filter q).length=((List.range n).filter p).length:=by intro n h hn;congr 1;refine List.filter_congr fun v hv=>?_;have h1:=List.mem_range.1 hv;have h2:=h v h1;rw[Bool.eq_iff_iff,h2];exact⟨fun h=>h.1,fun h=>⟨h,oM⟩⟩
 intro n;induction n with
 |zero=>intro _ _ h;omega
 |succ n ih=>
  intro h hc hn;rw[List.range_succ,List.filter_append,List.filter_append,List.length_append,List.length_append];by_cases aa:c=n
  ·subst aa;have h1:=same (n:=c) (fun v hv=>h v oM) (Nat.le_refl _);have h2:q c=false:=by
    cases hq:q c with
    |false=>rfl
    |true=>exact((h c oM).1 hq).2.elim rfl
   simp[h1,h2,hc]
  ·have h1:=ih (fun v hv=>h v oM) hc oM;have h2:q n=p n:=by rw[Bool.eq_iff_iff,h n oM];exact⟨fun h=>h.1,fun h=>⟨h,fun e=>aa e.symm⟩⟩
   have h3:(List.filter q [n]).length=(List.filter p [n]).length:=by simp[List.filter_cons,h2]
   omega
theorem bN {n:Nat} (mb:Nat→Nat→Bool) (kb:Nat→Bool) (hm:∀k v,mb k v=true↔Mn g (fun j=>j<k) v) (hk:∀i,kb i=true↔¬Cn g (fun j=>j<i) (g i).1 (g i).2):∀m,(∀j,j<m→(g j).1<n∧(g j).2<n)→((List.range n).filter (mb m)).length+((List.range m).filter kb).length=n
 |0,_=>by
  have:(List.range n).filter (mb 0)=List.range n:=by rw[List.filter_eq_self];intro v _;rw[hm];intro u hu hc;have:u=v:=hc.stay (X:=fun y=>u=y) rfl (fun j hj=>absurd hj (Nat.not_lt_zero j));omega
  rw[this];simp
 |m+1,hg=>by
  have ih:=bN mb kb hm hk m (fun j hj=>hg j oM);rw[List.range_succ,List.filter_append,List.length_append];have aa:∀{a b},Cn g (fun j=>j<m) a b→Cn g (fun j=>j<m+1) a b:=fun h=>h.mono fun i hi=>Nat.lt_succ_of_lt hi;have ac:∀{a b},Cn g (fun j=>j<m+1) a b→Cn g (fun j=>j<m∨j=m) a b:=fun h=>h.mono fun i hi=>by
   rcases Nat.lt_or_ge i m with h|h
   ·exact .inl h
   ·exact .inr oM
  by_cases hc:Cn g (fun j=>j<m) (g m).1 (g m).2
  ·have ad:kb m=false:=by
    cases h:kb m with
    |false=>rfl
    |true=>exact((hk m).1 h hc).elim
   have ae:(List.range n).filter (mb (m+1))=(List.range n).filter (mb m):=by
    refine List.filter_congr fun v _=>?_;rw[Bool.eq_iff_iff,hm,hm];refine⟨fun h u hu hx=>h u hu (aa hx),fun h u hu hx=>?_⟩;refine h u hu ((ac hx).sub fun i hi=>?_);rcases hi with hi|rfl
    ·exact Cn.edge hi
    ·exact hc
   rw[ae];simp[ad];omega
  ·have ad:kb m=true:=(hk m).2 hc;obtain⟨a,a1,a2,a3⟩:=Mn.of g (fun j=>j<m) (g m).1;obtain⟨b,b1,b2,b3⟩:=Mn.of g (fun j=>j<m) (g m).2;have ai:a≠b:=by rintro rfl;exact hc (a2.symm.trans b2)
   have aj:=hg m oM;have ab:Cn g (fun j=>j<m+1) a b:=((aa a2).trans (Cn.edge (Nat.lt_succ_self m))).trans (aa b2).symm;have ag:∀v,Mn g (fun j=>j<m+1) v↔Mn g (fun j=>j<m) v∧v≠max a b:=by
    intro v;constructor
    ·intro h;refine⟨fun u hu hx=>h u hu (aa hx),?_⟩;rintro rfl;rcases Nat.lt_or_ge a b with h1|h1
     ·refine h a oM ?_;rw[Nat.max_eq_right oM];exact ab
     ·refine h b oM ?_;rw[Nat.max_eq_left oM];exact ab.symm
    ·rintro⟨h,ah⟩ u hu hx;rcases(ac hx).add with h1|⟨h1,h2⟩|⟨h1,h2⟩
     ·exact h u hu h1
     ·have e1:=Mn.uniq b3 h (b2.trans h2);have e2:=Mn.le a3 (a2.trans h1.symm);refine ah ?_;subst e1;omega
     ·have e1:=Mn.uniq a3 h (a2.trans h2);have e2:=Mn.le b3 (b2.trans h1.symm);refine ah ?_;subst e1;omega
   have h1:=wV (p:=mb m) (q:=mb (m+1)) (c:=max a b) (n:=n) (fun v _=>by rw[hm,hm,ag]) (by
    rw[hm];rcases Nat.lt_or_ge a b with h|h
    ·rw[Nat.max_eq_right oM];exact b3
    ·rw[Nat.max_eq_left oM];exact a3) oM
   simp[ad];omega
end Go.Gr
namespace Go.Proofs.YtaofijjjheiknaaGreat
open Go.SL Go.Tup
def edT (es:List IE):List T5:=(BA es.length).map fun (i:Nat)=>⟨(i:Int),(es.getD i (0,0)).1,(es.getD i (0,0)).2,0,0⟩
theorem Mm (es:List IE):(edT es).length=es.length:=by unfold edT;simp
theorem Mo {es:List IE} {i:Nat} {e:IE} (h:es[i]? =some e):(edT es)[i]? =some ⟨(i:Int),e.1,e.2,0,0⟩:=by have hi:=(AK.1 h).1;unfold edT;rw[BH,CK hi];simp only[Option.map_some,AM,h,Option.getD_some]
theorem wW {es:List IE} {i:Nat} {e:IE} (h:es[i]? =some e):(edT es).take (i+1)=(edT es).take i++[⟨(i:Int),e.1,e.2,0,0⟩]:=by rw[BP,Mo h];rfl
theorem Qo {es:List IE} {t:T5} (h:t∈edT es):∃(i:Nat) (e:IE),es[i]? =some e∧t=⟨(i:Int),e.1,e.2,0,0⟩:=by obtain⟨i,hi⟩:=DA.1 h;have hl:=(AK.1 hi).1;rw[Mm] at hl;have he:es[i]? =some es[i]:=AG hl;rw[Mo he] at hi;exact⟨i,es[i],he,(BF hi).symm⟩
theorem Pi (es:List IE):(edT es).Pairwise fun a b=>a.c0<b.c0:=by unfold edT;rw[A6];exact(List.pairwise_lt_range).imp fun h=>by dsimp only;omega
open Go.Gr
theorem wX {sl:List T5} {fl:List Bool} {e:T5} (h:e∈Ba sl fl):∃t∈sl,e=⟨t.c0,t.c1,t.c2,0,0⟩:=by
 unfold Ba at h;obtain⟨⟨t,b⟩,hx,he⟩:=List.mem_filterMap.1 h;refine⟨t,(List.of_mem_zip hx).1,?_⟩;dsimp only at he;split at he
 ·exact(BF he).symm
 ·simp at he
theorem Qp:∀(sl:List T5) (fl:List Bool),((Ba sl fl).map (·.c0)).Sublist (sl.map (·.c0))
 |[],_=>by simp[Ba]
 |t::sl,[]=>by simp[Ba]
 |t::sl,b::fl=>by
  have ih:=Qp sl fl;unfold Ba at ih⊢;cases b
  ·rw[List.zip_cons_cons,List.filterMap_cons];exact ih.cons _
  ·rw[List.zip_cons_cons,List.filterMap_cons];exact ih.cons_cons _
theorem wY (sl:List T5) (fl:List Bool):(Ba sl fl).length≤sl.length:=by have:=(Qp sl fl).length_le;simpa using this
theorem edT_ok {N:Nat} {es:List IE} (hf:∀e∈es,inE N e):Ij N (edT es):=by refine⟨fun t ht=>?_,(Pi es).imp fun h=>by omega⟩;obtain⟨i,e,he,rfl⟩:=Qo ht;have:=hf e (A0 he);unfold inE at this;unfold Fp;dsimp only;omega
theorem wZ {es:List IE} {sl:List T5} (hp:sl.Perm (edT es)) (hs:Sn sl):sl=edT es:=by
 refine List.Perm.eq_of_pairwise (le:=fun (a b:T5)=>a.c0≤b.c0) ?_ hs ((Pi es).imp fun h=>by omega) hp;intro a b ha hb h1 h2;obtain⟨i,e,he,rfl⟩:=Qo (hp.mem_iff.1 ha);obtain⟨j,e',aa,rfl⟩:=Qo hb;dsimp only at h1 h2;obtain rfl:i=j:=by omega
 rw[he] at aa;rw[BF aa]
theorem kD (es:List IE):(edT es).map Cw=es:=by
 refine DI fun i=>?_;rw[BH];cases h:es[i]? with
 |none=>rw[BW (by rw[Mm];exact List.getElem?_eq_none_iff.1 h)];rfl
 |some e=>rw[Mo h];rfl
structure Av (N:Nat) (es:List IE) (lab:List Int) (fl:List Bool) (r b:List T5):Prop where
 labs:Ee (gE es) (fun i=>i<es.length) N (-1) lab
 fors:Ur es fl
 arcs:Cp (Bb lab) (Ba (edT es) fl) r
 len:r.length=2*(Ba (edT es) fl).length
 tours:b=Ke r
theorem Ny.parts {N:Nat} {es:List IE} {a f:List T5} (h:Ny N (edT es) a f):∃lab fl,a=Bb lab∧f=Ba (edT es) fl∧Ee (gE es) (fun i=>i<es.length) N (-1) lab∧Ur es fl:=by obtain⟨sl,fl,lab,h1,h2,h3,h4,rfl,rfl⟩:=h;obtain rfl:=wZ h1 h2;rw[kD,Mm] at h3;rw[kD] at h4;exact⟨lab,fl,rfl,rfl,h3,h4⟩
open Go.Spc Go.Srt
theorem Ee.root {g:Nat→Ed} {S:Nat→Prop} {N:Nat} {lab:List Int} (h:Ee g S N (-1) lab) {v:Nat} (hv:v<N):∃x:Nat,lab[v]? =some (x:Int)∧x≤v∧Cn g S v x∧Mn g S x:=by obtain⟨x,h1,h2,h3,h4⟩:=h.at_ v hv oM;exact⟨x,h1,h3,h2,fun u hu hc=>by have:=h4 u (h2.trans hc.symm);omega⟩
theorem Ee.same {g:Nat→Ed} {S:Nat→Prop} {N:Nat} {lab:List Int} (h:Ee g S N (-1) lab) {u v:Nat} (hu:u<N) (hv:v<N) (hc:Cn g S u v):lab[u]? =lab[v]? :=by obtain⟨x,x1,_,x2,x3⟩:=h.root hu;obtain⟨y,y1,_,y2,y3⟩:=h.root hv;rw[x1,y1,x3.uniq y3 (x2.symm.trans (hc.trans y2))]
theorem Ee.mem {g:Nat→Ed} {S:Nat→Prop} {N:Nat} {lab:List Int} (h:Ee g S N (-1) lab) {x:Int} (hx:x∈lab):∃v:Nat,x=(v:Int)∧v<N∧Mn g S v:=by obtain⟨i,hi,rfl⟩:=B0.1 hx;obtain⟨v,h1,h2,_,h3⟩:=h.root (v:=i) (by rw[←h.len];exact hi);rw[AG hi] at h1;have:=h.len;exact⟨v,BF h1,oM,h3⟩
theorem Sw {lab:List Int} {v:Nat} {x:Int} (h:lab[v]? =some x):(at5 (Bb lab) v).c1=x:=by obtain⟨hv,rfl⟩:=AK.1 h;unfold at5 Bb;rw[AM,BH,CK hv];simp[AM,hv]
namespace Av
variable {N:Nat} {es:List IE} {lab:List Int} {fl:List Bool} {r b:List T5}
theorem edge (h:Av N es lab fl r b) {e:T5} (he:e∈Ba (edT es) fl):∃(i:Nat) (d:IE),es[i]? =some d∧fl[i]? =some true∧e=⟨(i:Int),d.1,d.2,0,0⟩:=by
 unfold Ba at he;obtain⟨⟨t,c⟩,hx,he⟩:=List.mem_filterMap.1 he;dsimp only at he;split at he
 next hc=>
  subst hc;obtain⟨i,hi⟩:=DA.1 hx;rw[DR] at hi;have aa:=(AK.1 hi.1).1;rw[Mm] at aa;have hd:es[i]? =some es[i]:=AG aa;have h1:=hi.1;rw[Mo hd] at h1;have h2:=BF h1;subst h2;exact⟨i,es[i],hd,hi.2,(BF he).symm⟩
 next=>simp at he
theorem hl (h:Av N es lab fl r b) (hf:∀e∈es,inE N e):∀e∈Ba (edT es) fl,(at5 (Bb lab) e.c1.toNat).c1=(at5 (Bb lab) e.c2.toNat).c1:=by
 intro e he;obtain⟨i,d,hd,_,rfl⟩:=h.edge he;have h1:=hf d (A0 hd);unfold inE at h1;have hg:gE es i=(d.1.toNat,d.2.toNat):=by unfold gE;rw[hd]
 have hc:Cn (gE es) (fun i=>i<es.length) d.1.toNat d.2.toNat:=by have:=Cn.edge (g:=gE es) (S:=fun i=>i<es.length) (i:=i) (AK.1 hd).1;rwa[hg] at this
 have h2:=h.labs.same (u:=d.1.toNat) (v:=d.2.toNat) oM oM hc;obtain⟨x,hx,_⟩:=h.labs.root (v:=d.1.toNat) oM;show(at5 (Bb lab) d.1.toNat).c1=(at5 (Bb lab) d.2.toNat).c1;rw[Sw hx,Sw (h2▸hx)]
theorem tours_len (h:Av N es lab fl r b) (hf:∀e∈es,inE N e):b.length≤2*(Ba (edT es) fl).length:=by rw[h.tours,←h.len];exact h.arcs.tours_len (h.hl hf)
theorem gE_lt (hf:∀e∈es,inE N e):∀j,j<es.length→(gE es j).1<N∧(gE es j).2<N:=by intro j hj;have hd:es[j]? =some es[j]:=AG hj;have h1:=hf _ (A0 hd);unfold inE at h1;unfold gE;rw[hd];dsimp only;omega
theorem for_le (h:Av N es lab fl r b) (hf:∀e∈es,inE N e):(Ba (edT es) fl).length≤N:=by
 classical
 have hc:=bN (g:=gE es) (n:=N) (fun k v=>decide (Mn (gE es) (fun j=>j<k) v)) (fun i=>decide (¬Cn (gE es) (fun j=>j<i) (gE es i).1 (gE es i).2)) (fun k v=>decide_eq_true_iff) (fun i=>decide_eq_true_iff) es.length (gE_lt hf);have h2:((Ba (edT es) fl).map fun t=>t.c0.toNat).length≤((BA es.length).filter fun i=>decide (¬Cn (gE es) (fun j=>j<i) (gE es i).1 (gE es i).2)).length:=by
  refine List.Nodup.length_le_of_subset ?_ ?_
  ·refine List.Pairwise.map _ (R:=fun (a b:T5)=>a.c0<b.c0∧0≤a.c0) (fun a b h=>by omega) ?_;have hp:(Ba (edT es) fl).Pairwise fun a b=>a.c0<b.c0:=by have:=List.Pairwise.sublist (R:=fun x y:Int=>x<y) (Qp (edT es) fl) (by rw[A6];exact Pi es);rwa[A6] at this
   refine EA ?_ hp;intro a b ha _ aa;obtain⟨i,d,_,_,rfl⟩:=h.edge ha;exact⟨aa,oD⟩
  ·intro v hv;obtain⟨t,ht,rfl⟩:=AO.1 hv;obtain⟨i,d,hd,ab,rfl⟩:=h.edge ht;have hi:=(AK.1 hd).1;have hk:=(h.fors.2 i true ab).1 rfl;refine BV.2 ⟨A9.2 oD,decide_eq_true ?_⟩;dsimp only;rw[AU];exact fun ac=>hk.2 (ac.mono fun j hj=>⟨oM,hj⟩)
 rw[AQ] at h2;omega
end Av
def dv0 (s n:Nat):Dv:=⟨s,n,fun _=>none,-1,0⟩
def wk0 (s n room:Nat):Wk:=⟨dv0 s n,⟨room,0,0,[]⟩,⟨n,[(0,n)]⟩,[]⟩
theorem xA (s n:Nat) (hs:8≤s∧s≤256) (hb:n≤1000000):Ct AC 46 [Z9 Z8 s,Z9 Z8 n] [] fun v H'=> ∃bd c,v= .tuple #[pv bd,Z9 Z8 0]∧H'=[c]∧Dz bd (dv0 s n) c:=by
 refine Ct.convP (pT s n hs hb) (.refl _) ?_;rintro v H' ⟨bd,bl,bn,rfl,rfl⟩;refine⟨_,⟨bd,_,rfl,rfl,bl,bn,none,0,0,[],[],[],0,[],rfl,Vec.nil _ _,by simp,fun _=>rfl,AT _,hs,hb,by simp[dv0]⟩,by simp[Bk,chs,dv0]⟩
theorem xB (bd ba bs:Nat):Ct AC 47 [pv bd,pv ba,pv bs] [] fun v H'=>∃bw,v=pv bw∧H'=[Ab bw bd ba bs]:=by
 refine cG func47 fun _=>?_;repeat(refine sA ?_;intros)
 rename_i bw;(refine dP [[(bw,row [pv bd,pv ba,pv bs] 105)]] ?_;exact⟨bw,rfl,rfl⟩)
theorem live0 (n:Nat) (h:1≤n):Ia ⟨n,[(0,n)]⟩ [] where
 fit:=by simp
 apart:=DJ
 free:=fun x hx=>by simp[inF];exact hx
 sum:=by simp[Bi]
theorem wc0 {bd ba bs s n room:Nat} {cd ca cs:Aa} (hn:1≤n) (h1:Dz bd (dv0 s n) cd) (h2:Kb ba ⟨room,0,0,[]⟩ ca) (h3:Ko bs ⟨n,[(0,n)]⟩ cs):Wc bd ba bs (wk0 s n room) cd ca cs:=
 ⟨h1,h2.ar,h3,rfl,live0 n hn⟩
theorem big0 (s n room:Nat):big (wk0 s n room).σ.free=n:=by simp[wk0,big]
theorem Lay_k (bw bd ba bs:Nat) (W:Wk) (cd ca cs:Aa) (h:Wc bd ba bs W cd ca cs) (k:Nat) (h1:1≤k) (h2:k≤5) (p:Option Addr) (n cap:Nat) (ts:List T5) (c:Aa) (hv:RV p n ts c) (hn:n≤100000000) (ab:∀t∈ts,okT k t) (hr:W.δ.size≤W.α.room-W.α.used) (hf:W.δ.fault= -1) (ac:W.δ.acts≤100000000000) (hb:Ac W.δ.size k n≤big W.σ.free):Ct AC 73 [pv bw,Z9 Z8 k,.slice p n cap] [Ab bw bd ba bs,cd,ca,cs,c] fun v H'=> ∃cd' ca' cs' W' f,v= .tuple #[flv f,Z9 Z8 0]∧H'=[Ab bw bd ba bs,cd',ca',cs',c]∧Wc bd ba bs W' cd' ca' cs'∧Ev W W' (Ac W.δ.size k n) (Ac W.δ.size k n)∧Ax W.live W W'∧W'.α.gs.Perm W.α.gs∧W'.live.Perm (Bc f W.live)∧f.width=k∧f.count=n∧f.blocks=Ac W.δ.size k n∧Bg W'.δ.disk W.δ.size [f.ext] f ts:=by
 refine(Lay_ct bw bd ba bs W cd ca cs h k h1 h2 p n cap ts c hv hn ab hr hf ac).mono ?_;rintro v H' ⟨cd',ca',cs',W',rfl,hW,hE,hK,hg,⟨_,f,rfl,hl,hw,hc,aa⟩|⟨hx,_⟩⟩
 ·exact⟨cd',ca',cs',W',f,rfl,rfl,hW,hE,hK,hg,by rw[hl];exact .refl _,hw,hc,by rw[aa.blk,hw,hc],aa⟩
 ·omega
theorem Dh.stay {W W':Wk} {x:Fl×List T5} (h:Dh W x) (hs:W'.δ.size=W.δ.size) (hk:Ax W.live W W') (hl:∀e∈W.live,e∈W'.live):Dh W' x:=by obtain⟨Lv,h1,h2⟩:=h;refine⟨Lv,?_,fun e he=>hl e (h2 e he)⟩;rw[hs];exact h1.keep fun y ⟨e,he,h3⟩=>hk y ⟨e,h2 e he,h3⟩
theorem Dh.new {W':Wk} {s:Nat} {f:Fl} {ts:List T5} {l:List Ext} (h:Bg W'.δ.disk s [f.ext] f ts) (hs:W'.δ.size=s) (hl:W'.live.Perm (Bc f l)):Dh W' (f,ts):=by subst hs;exact fo_sub h hl
theorem kE {f:Fl} {l l':List Ext} (h:l'.Perm (Bc f l)):∀e∈l,e∈l':=fun _ he=>h.mem_iff.2 (Wg he)
theorem kF (lab:List Int):(Bb lab).length=lab.length:=by unfold Bb;simp
namespace Av
variable {N:Nat} {es:List IE} {lab:List Int} {fl:List Bool} {r b:List T5}
theorem arc_of (h:Av N es lab fl r b) (hf:∀e∈es,inE N e) {k:Nat} (hk:k<r.length):∃(i:Nat) (d:IE) (x:Nat),es[i]? =some d∧fl[i]? =some true∧x<N∧lab[d.1.toNat]? =some (x:Int)∧(at5 r k=⟨2*(i:Int),d.1,d.2,(x:Int),0⟩∨at5 r k=⟨2*(i:Int)+1,d.2,d.1,(x:Int),0⟩):=by
 obtain⟨e,he,hx⟩:=h.arcs.edge hk;obtain⟨i,d,hd,ab,rfl⟩:=h.edge he;have h1:=hf d (A0 hd);unfold inE at h1;obtain⟨x,aa,ac,_⟩:=h.labs.root (v:=d.1.toNat) oM;refine⟨i,d,x,hd,ab,oM,aa,?_⟩;rw[Sw aa] at hx;exact hx
theorem b_len (h:Av N es lab fl r b) (hf:∀e∈es,inE N e) (hN:N≤1000000):b.length≤2*N:=by have h1:=h.tours_len hf;have h2:=h.for_le hf;omega
end Av
def edx (r:List T5) (k:Nat):Nat:=((at5 r k).c0/2).toNat
def Fs (fl:List Bool) (i:Nat):Prop:=fl[i]? =some true
def Rch (r:List T5) (j k:Nat):Prop:=∃n,itF (Ay r) n j=k
theorem Rch.trans {r:List T5} {a b c:Nat} (h1:Rch r a b) (h2:Rch r b c):Rch r a c:=by obtain⟨n,rfl⟩:=h1;obtain⟨m,rfl⟩:=h2;exact⟨m+n,Pg ..⟩
theorem kG {f:Nat→Nat} {P i:Nat} (h:itF f P i=i):∀n,itF f (n*P) i=i
 |0=>by rw[Nat.zero_mul];rfl
 |n+1=>by rw[BJ,Pg,h,kG h n]
theorem xC {es:List IE} {fl:List Bool} {i:Nat} {d:IE} (hd:es[i]? =some d) (hf:fl[i]? =some true):(⟨(i:Int),d.1,d.2,0,0⟩:T5)∈Ba (edT es) fl:=by unfold Ba;refine List.mem_filterMap.2 ⟨(⟨(i:Int),d.1,d.2,0,0⟩,true),?_,rfl⟩;exact A0 (DR.2 ⟨Mo hd,hf⟩)
namespace Cp
variable {a f r:List T5}
theorem pos0 (A:Cp a f r) {k:Nat} (h:k<r.length):0≤(at5 r k).c0:=by obtain⟨e,he,hk⟩:=A.edge h;have:=A.pos e he;rcases hk with hk|hk<;>rw[hk]<;>dsimp only<;>omega
theorem bro_bro (A:Cp a f r) {k:Nat} (h:k<r.length):Fa r (Fa r k)=k:=by have h0:=A.pos0 h;refine A.num (Nf (Nf h)) h ?_;rw[A.bro (Nf h),A.bro h];dsimp only;unfold Fb;split<;>split<;>omega
theorem bro_ne (A:Cp a f r) {k:Nat} (h:k<r.length):Fa r k≠k:=by intro hq;have h1:=congrArg T5.c0 (A.bro h);rw[hq] at h1;dsimp only at h1;unfold Fb at h1;split at h1<;>omega
theorem edx_eq (A:Cp a f r) {j k:Nat} (hj:j<r.length) (hk:k<r.length) (h:edx r j=edx r k):j=k∨j=Fa r k:=by
 have h1:=A.pos0 hj;have h2:=A.pos0 hk;unfold edx at h;by_cases he:(at5 r j).c0=(at5 r k).c0
 ·exact .inl (A.num hj hk he)
 ·refine .inr (A.num hj (Nf hk) ?_);rw[A.bro hk];dsimp only;unfold Fb;split<;>omega
theorem symm (A:Cp a f r) {j k:Nat} (hj:j<r.length) (h:Rch r j k):Rch r k j:=by obtain⟨n,rfl⟩:=h;obtain⟨P0,_,P2,_⟩:=A.per hj;refine⟨n*Ca r j-n,?_⟩;rw[←Pg,Nat.sub_add_cancel (Nat.le_mul_of_pos_right n P0),kG P2]
theorem pos_of (A:Cp a f r) {i k:Nat} (hi:i<r.length) (h:Rch r i k):∃n,n<Ca r i∧itF (Ay r) n i=k:=by
 obtain⟨n,hn⟩:=h;obtain⟨m,_,h2,h3⟩:=Us (p:=fun n=>itF (Ay r) n i=k) hn;obtain⟨P0,_,P2,_⟩:=A.per hi;refine⟨m,?_,h2⟩;rcases Nat.lt_or_ge m (Ca r i) with h|h
 ·exact h
 ·refine(h3 (m-Ca r i) oM ?_).elim;rw[←h2]
  conv=>rhs;rw[show m=(m-Ca r i)+Ca r i by omega,Pg,P2]
theorem pos_inj (A:Cp a f r) {i m n:Nat} (hi:i<r.length) (hm:m<Ca r i) (hn:n<Ca r i) (h:itF (Ay r) m i=itF (Ay r) n i):m=n:=by
 obtain⟨_,_,_,P3⟩:=A.per hi;have key:∀{x y:Nat},x<y→y<Ca r i→itF (Ay r) x i≠itF (Ay r) y i:=by intro x y h1 h2 h3;rw[show y=x+(y-x) by omega,Pg] at h3;have:=Xe (f:=Ay r) Dp A.sig_inj hi (Di Dp hi _) x h3;exact P3 (y-x) oM oM this.symm
 rcases B5 m n with h1|h1|h1
 ·exact(key h1 hn h).elim
 ·exact h1
 ·exact(key h1 hm h.symm).elim
end Cp
namespace Av
variable {N:Nat} {es:List IE} {lab:List Int} {fl:List Bool} {r b:List T5}
theorem bridge (h:Av N es lab fl r b) (i:Nat) (hi:Fs fl i):¬Cn (gE es) (fun j=>Fs fl j∧j≠i) (gE es i).1 (gE es i).2:=by intro hc;have hk:=(h.fors.2 i true hi).1 rfl;exact hk.bridge (hc.mono fun j hj=>⟨(h.fors.2 j true hj.1).1 rfl,hj.2⟩)
theorem arc_g (h:Av N es lab fl r b) (hf:∀e∈es,inE N e) {k:Nat} (hk:k<r.length):Fs fl (edx r k)∧((gE es (edx r k)).1=(at5 r k).c1.toNat∧(gE es (edx r k)).2=(at5 r k).c2.toNat∨(gE es (edx r k)).1=(at5 r k).c2.toNat∧(gE es (edx r k)).2=(at5 r k).c1.toNat)∧0≤(at5 r k).c1∧(at5 r k).c1<N∧0≤(at5 r k).c2∧(at5 r k).c2<N:=by
 obtain⟨i,d,x,hd,aa,_,_,hx⟩:=h.arc_of hf hk;have h1:=hf d (A0 hd);unfold inE at h1;have hg:gE es i=(d.1.toNat,d.2.toNat):=by unfold gE;rw[hd]
 unfold edx;rcases hx with hx|hx
 ·have e1:((at5 r k).c0/2).toNat=i:=by rw[hx];dsimp only;omega
  rw[e1,hg,hx];dsimp only;exact⟨aa,.inl ⟨rfl,rfl⟩,oM,oM,oM,oM⟩
 ·have e1:((at5 r k).c0/2).toNat=i:=by rw[hx];dsimp only;omega
  rw[e1,hg,hx];dsimp only;exact⟨aa,.inr ⟨rfl,rfl⟩,oM,oM,oM,oM⟩
theorem rch_bro (h:Av N es lab fl r b) (hf:∀e∈es,inE N e) {k:Nat} (hk:k<r.length):Rch r k (Fa r k):=by
 refine BS fun ab=>?_;obtain⟨P0,_,P2,P3⟩:=h.arcs.per hk;have hw:∀n,n<Ca r k→Cn (gE es) (fun j=>Fs fl j∧j≠edx r k) (at5 r k).c2.toNat (at5 r (itF (Ay r) (n+1) k)).c1.toNat:=by
  intro n;induction n with
  |zero=>
   intro _;show Cn _ _ _ (at5 r (Ay r k)).c1.toNat;rw[h.arcs.sig_from hk];exact .refl _
  |succ n ih=>
   intro hn;have aa:itF (Ay r) (n+1) k<r.length:=Di Dp hk _;refine(ih oM).trans ?_;show Cn _ _ _ (at5 r (Ay r (itF (Ay r) (n+1) k))).c1.toNat;rw[h.arcs.sig_from aa];obtain⟨g1,g2,_⟩:=h.arc_g hf aa;refine .one ⟨edx r (itF (Ay r) (n+1) k),⟨g1,fun hq=>?_⟩,g2⟩;rcases h.arcs.edx_eq aa hk hq with h1|h1
   ·exact P3 (n+1) oM oM h1
   ·exact ab ⟨n+1,h1⟩
 have h1:=hw (Ca r k-1) oM;rw[show Ca r k-1+1=Ca r k by omega,P2] at h1;obtain⟨g1,g2,_⟩:=h.arc_g hf hk;rcases g2 with⟨g2,g3⟩|⟨g2,g3⟩
 ·exact h.bridge _ g1 (by rw[g2,g3];exact h1.symm)
 ·exact h.bridge _ g1 (by rw[g2,g3];exact h1)
theorem rch_behind (h:Av N es lab fl r b) (hf:∀e∈es,inE N e) {k:Nat} (hk:k<r.length):Rch r k (Gg r k):=by refine(h.rch_bro hf hk).trans ⟨1,?_⟩;show Gg r (Fa r (Fa r k))=_;rw[h.arcs.bro_bro hk]
theorem rch_to (h:Av N es lab fl r b) (hf:∀e∈es,inE N e) {k:Nat} (hk:k<r.length):∀m,k+m<r.length→(at5 r k).c1=(at5 r (k+m)).c1→Rch r k (k+m)
 |0,_,_=>⟨0,rfl⟩
 |m+1,hm,hc=>by
  have e1:=Ph h.arcs.sa (show k≤k+m by omega) oM;have e2:=Ph h.arcs.sa (show k+m≤k+(m+1) by omega) hm;refine(h.rch_to hf hk m oM oM).trans ?_;have hb:=h.rch_behind hf (k:=k+m) oM;have e3:Gg r (k+m)=k+m+1:=by unfold Gg;rw[if_pos ⟨oM,by rw[show k+m+1=k+(m+1) by omega];omega⟩]
  rw[e3] at hb;exact hb
theorem rch_same (h:Av N es lab fl r b) (hf:∀e∈es,inE N e) {j k:Nat} (hj:j<r.length) (hk:k<r.length) (hc:(at5 r j).c1=(at5 r k).c1):Rch r j k:=by
 rcases Nat.le_total j k with h1|h1
 ·have:=h.rch_to hf hj (k-j) oM (by rw[show j+(k-j)=k by omega];exact hc);rwa[show j+(k-j)=k by omega] at this
 ·have:=h.rch_to hf hk (j-k) oM (by rw[show k+(j-k)=j by omega];exact hc.symm);rw[show k+(j-k)=j by omega] at this;exact h.arcs.symm hk this
theorem arc_at (h:Av N es lab fl r b) (hf:∀e∈es,inE N e) {x y:Nat} (hj:Jn (gE es) (Fs fl) x y):∃k,k<r.length∧(at5 r k).c1=x∧(at5 r k).c2=y:=by
 obtain⟨i,hi,he⟩:=hj;have aa:i<es.length:=by have:=(AK.1 hi).1;rw[←h.fors.1];exact this
 have hd:es[i]? =some es[i]:=AG aa;have h1:=hf _ (A0 hd);unfold inE at h1;have hg:gE es i=(es[i].1.toNat,es[i].2.toNat):=by unfold gE;rw[hd]
 rw[hg] at he;have hm:=xC hd hi;rcases he with⟨e1,e2⟩|⟨e1,e2⟩
 ·obtain⟨k,hk,hq⟩:=h.arcs.arc hm (t:=⟨2*(i:Int),es[i].1,es[i].2,(at5 (Bb lab) es[i].1.toNat).c1,0⟩) (by simp[Lr]);exact⟨k,hk,by rw[hq];dsimp only at e1⊢;omega,by rw[hq];dsimp only at e2⊢;omega⟩
 ·obtain⟨k,hk,hq⟩:=h.arcs.arc hm (t:=⟨2*(i:Int)+1,es[i].2,es[i].1,(at5 (Bb lab) es[i].1.toNat).c1,0⟩) (by simp[Lr]);exact⟨k,hk,by rw[hq];dsimp only at e2⊢;omega,by rw[hq];dsimp only at e1⊢;omega⟩
theorem rch_cn (h:Av N es lab fl r b) (hf:∀e∈es,inE N e) {u x:Nat} (hc:Cn (gE es) (Fs fl) u x):∀{j k:Nat},j<r.length→k<r.length→(at5 r j).c1=u→(at5 r k).c1=x→Rch r j k:=by
 induction hc with
 |refl=>intro j k hj hk e1 e2;exact h.rch_same hf hj hk (e1.trans e2.symm)
 |step _ aa ih=>
  intro j k hj hk e1 e2;obtain⟨m,hm,m1,m2⟩:=h.arc_at hf aa;refine((ih hj hm e1 m1).trans (h.rch_bro hf hm)).trans (h.rch_same hf (Nf hm) hk ?_);rw[h.arcs.bro hm,e2];exact m2
theorem cn_f (h:Av N es lab fl r b) {u x:Nat}:Cn (gE es) (fun i=>i<es.length) u x↔Cn (gE es) (Fs fl) u x:=by
 rw[Kr.conn];refine Cn.congr fun i=>⟨fun hk=>?_,fun hk=>(h.fors.2 i true hk).1 rfl⟩
 have hi:i<fl.length:=by rw[h.fors.1];exact hk.1
 have:=(h.fors.2 i fl[i] (AG hi)).2 hk;unfold Fs;rw[AG hi,this]
theorem lab_at (h:Av N es lab fl r b) (hf:∀e∈es,inE N e) {k:Nat} (hk:k<r.length):∃x:Nat,(at5 r k).c3=x∧x<N∧lab[(at5 r k).c1.toNat]? =some (x:Int)∧Cn (gE es) (Fs fl) (at5 r k).c1.toNat x∧lab[x]? =some (x:Int):=by
 obtain⟨_,_,c1,c2,_,_⟩:=h.arc_g hf hk;obtain⟨x,h1,h2,h3,h4⟩:=h.labs.root (v:=(at5 r k).c1.toNat) oM;have aa:x<N:=oM;refine⟨x,?_,aa,h1,h.cn_f.1 h3,?_⟩
 ·rw[h.arcs.lab (h.hl hf) hk,Sw h1]
 ·rw[←h1];exact h.labs.same aa oM h3.symm
theorem root_of (h:Av N es lab fl r b) (hf:∀e∈es,inE N e) {k:Nat} (hk:k<r.length):∃i,i<r.length∧Fc r i=true∧(at5 r i).c3=(at5 r k).c3∧Rch r i k:=by
 obtain⟨x,h1,h2,h3,h4,h5⟩:=h.lab_at hf hk;obtain⟨_,_,c1,c2,_,_⟩:=h.arc_g hf hk;have ab:∃k0,k0<r.length∧(at5 r k0).c1=x:=by
  generalize hu:(at5 r k).c1.toNat=u at h4;cases h4 with
  |refl=>exact⟨k,hk,oM⟩
  |step _ hj=>
   obtain⟨m,hm,m1,m2⟩:=h.arc_at hf hj.symm;exact⟨m,hm,m1⟩
 obtain⟨k0,ac,ad⟩:=ab;obtain⟨i,i1,⟨i2,i3⟩,i4⟩:=Us (p:=fun i=>i<r.length∧(at5 r i).c1=x) ⟨ac,ad⟩;have aa:(at5 r i).c3=x:=by rw[h.arcs.lab (h.hl hf) i2,i3];exact Sw h5
 refine⟨i,i2,?_,by rw[aa,h1],h.rch_cn hf h4.symm i2 hk i3 oM⟩;unfold Fc;refine decide_eq_true ⟨by rw[i3,aa],fun h0 hq=>i4 (i-1) oM ⟨oM,by rw[hq,i3]⟩⟩
end Av
def posF (r:List T5) (i k:Nat):Nat:=((BA (Ca r i)).find? fun n=>itF (Ay r) n i==k).getD 0
theorem Av.posF_spec {N:Nat} {es:List IE} {lab:List Int} {fl:List Bool} {r b:List T5} (h:Av N es lab fl r b) {i k:Nat} (hi:i<r.length) (hR:Rch r i k):posF r i k<Ca r i∧itF (Ay r) (posF r i k) i=k:=by
 obtain⟨n,hn,he⟩:=h.arcs.pos_of hi hR;unfold posF;cases hf:(BA (Ca r i)).find? fun n=>itF (Ay r) n i==k with
 |none=>
  rw[D2] at hf;exact(hf n (A9.2 hn) (by simp[he])).elim
 |some q=>
  have h1:=List.find?_some hf;have h2:=A9.1 (DD hf);exact⟨h2,by simpa using h1⟩
def vtA (r:List T5) (i n:Nat):Nat:=(at5 r (itF (Ay r) n i)).c1.toNat
def edA (r:List T5) (i n:Nat):Nat:=edx r (itF (Ay r) n i)
def Hn (r:List T5) (i n:Nat):Nat:=posF r i (Fa r (itF (Ay r) n i))
theorem Av.bro_at {N:Nat} {es:List IE} {lab:List Int} {fl:List Bool} {r b:List T5} (h:Av N es lab fl r b) (hf:∀e∈es,inE N e) {i n:Nat} (hi:i<r.length):Hn r i n<Ca r i∧itF (Ay r) (Hn r i n) i=Fa r (itF (Ay r) n i):=
 h.posF_spec hi (Rch.trans ⟨n,rfl⟩ (h.rch_bro hf (Di Dp hi n)))
theorem Av.vt_succ {N:Nat} {es:List IE} {lab:List Int} {fl:List Bool} {r b:List T5} (h:Av N es lab fl r b) {i n:Nat} (hi:i<r.length):vtA r i (n+1)=(at5 r (itF (Ay r) n i)).c2.toNat:=by show(at5 r (Ay r (itF (Ay r) n i))).c1.toNat=_;rw[h.arcs.sig_from (Di Dp hi n)]
theorem Av.tw {N:Nat} {es:List IE} {lab:List Int} {fl:List Bool} {r b:List T5} (h:Av N es lab fl r b) (hf:∀e∈es,inE N e) {i:Nat} (hi:i<r.length):Tw (gE es) (Fs fl) (Ca r i) (vtA r i) (edA r i) (Hn r i) where
 mem k hk:=(h.arc_g hf (Di Dp hi k)).1
 ends k hk:=by rw[h.vt_succ hi];exact(h.arc_g hf (Di Dp hi k)).2.1
 round:=by unfold vtA;rw[(h.arcs.per hi).2.2.1];rfl
 bro_lt k _:=(h.bro_at hf hi).1
 bro_ne k _ hq:=by have h1:=(h.bro_at hf (n:=k) hi).2;rw[hq] at h1;exact h.arcs.bro_ne (Di Dp hi k) h1.symm
 bro_bro k hk:=by
  have h1:=(h.bro_at hf (n:=k) hi)
  have h2:=(h.bro_at hf (n:=Hn r i k) hi)
  refine h.arcs.pos_inj hi h2.1 hk ?_;rw[h2.2,h1.2,h.arcs.bro_bro (Di Dp hi k)]
 bro_from k _:=by rw[h.vt_succ hi];unfold vtA;rw[(h.bro_at hf hi).2,h.arcs.bro (Di Dp hi k)]
 bro_to k _:=by rw[h.vt_succ hi,(h.bro_at hf hi).2,h.arcs.bro (Di Dp hi k)];rfl
 uniq j k hj hk he:=by
  rcases h.arcs.edx_eq (Di Dp hi j) (Di Dp hi k) he with h1|h1
  ·exact .inl (h.arcs.pos_inj hi hj hk h1)
  ·refine .inr (h.arcs.pos_inj hi hj (h.bro_at hf hi).1 ?_);rw[h1,(h.bro_at hf hi).2]
 bridge:=h.bridge
theorem srtOf {o:T5} {l A:List T5} (hp:A.Perm l) (hs:A.Pairwise fun a b=>ltO o a b=true):srt (ltO o) false l=A:=by
 have ac:∀a,ltO o a a=false:=fun a=>by
  cases h:ltO o a a with
  |false=>rfl
  |true=>have:=(Eg o).asym a a h;rw[h] at this;simp at this
 refine List.Perm.eq_of_pairwise (le:=fun a b=>ltO o b a=false) ?_ ((Lk (Eg o) false l).imp fun {a b} h=>by simpa using h) (hs.imp fun {a b} h=>(Eg o).asym a b h) ((Bt l).trans hp.symm);intro a b ha hb h1 h2;have aa:a∈A:=hp.mem_iff.2 (Ji ha);refine BS fun ab=>?_;have key:ltO o a b=true∨ltO o b a=true:=by
  obtain⟨i,hi,rfl⟩:=B0.1 aa;obtain⟨j,hj,rfl⟩:=B0.1 hb;rcases B5 i j with h3|h3|h3
  ·exact .inl (BB.1 hs i j hi hj h3)
  ·subst h3;exact(ab rfl).elim
  ·exact .inr (BB.1 hs j i hj hi h3)
 rcases key with h3|h3
 ·rw[h2] at h3;cases h3
 ·rw[h1] at h3;cases h3
theorem kH (r:List T5):∀n,(Gx r n).map (·.c0)=(Ng r n).map fun k=>(at5 r k).c0
 |0=>rfl
 |n+1=>by
  rw[Xh,bL,AY,AY,kH r n];congr 1;split
  ·unfold Ls Dq;rw[CH,CH];rfl
  ·rfl
theorem xD (r:List T5):(BA r.length).map (at5 r)=r:=by
 apply List.ext_getElem
 ·simp
 ·intro i h1 h2;rw[List.getElem_map,List.getElem_range];unfold at5;rw[AM,AG h2];rfl
namespace Av
variable {N:Nat} {es:List IE} {lab:List Int} {fl:List Bool} {r b:List T5}
theorem idx_perm (h:Av N es lab fl r b) (hf:∀e∈es,inE N e):(Ng r r.length).Perm (BA r.length):=by
 rw[List.perm_ext_iff_of_nodup (h.arcs.idx_nodup (h.hl hf) (AI _)) List.nodup_range];intro k;rw[A9];constructor
 ·intro hk;obtain⟨i,hi,_,n,_,rfl⟩:=bM hk;exact Di Dp hi n
 ·intro hk;obtain⟨i,hi,hr,_,hR⟩:=h.root_of hf hk;obtain⟨n,hn,he⟩:=h.arcs.pos_of hi hR;unfold Ng;refine BZ.2 ⟨i,A9.2 hi,?_⟩;rw[if_pos hr];exact AO.2 ⟨n,A9.2 hn,he⟩
theorem arc_b (h:Av N es lab fl r b) {i n:Nat} (hi:i<r.length) (hr:Fc r i=true) (hn:n<Ca r i):Dq r i n∈b:=by rw[h.tours];unfold Ke Gx;refine BZ.2 ⟨i,A9.2 hi,?_⟩;rw[if_pos hr];exact List.mem_map_of_mem (A9.2 hn)
theorem b_arc (h:Av N es lab fl r b) {t:T5} (ht:t∈b):∃i n,i<r.length∧Fc r i=true∧n<Ca r i∧t=Dq r i n:=by
 rw[h.tours] at ht;unfold Ke Gx at ht;obtain⟨i,hi,hx⟩:=BZ.1 ht;split at hx
 next hr=>
  obtain⟨n,hn,rfl⟩:=AO.1 hx;exact⟨i,n,A9.1 hi,hr,A9.1 hn,rfl⟩
 next=>simp at hx
end Av
def trv (x:Int):Nat→Int→Fo→List T5
 |_,_,.nil=>[]
 |p,u,.node v s r=>⟨x,(p:Int),(v:Int),u,((s.sz+1:Nat):Int)⟩::(trv x (p+1) v s++⟨x,((p+1+2*s.sz:Nat):Int),-1,-1,0⟩::trv x (p+2+2*s.sz) u r)
def Cc:Int→Int→Nat→Fo→List T5
 |_,_,_,.nil=>[]
 |u,d,n,.node v s r=>⟨(v:Int),u,(n:Int),((s.sz+1:Nat):Int),d+1⟩::(Cc v (d+1) (n+1) s++Cc u d (n+1+s.sz) r)
theorem Qq:∀(T:Fo) (u d:Int) (n:Nat),(Cc u d n T).map (·.c0)=T.vs.map fun (v:Nat)=>(v:Int)
 | .nil,_,_,_=>rfl
 | .node v s r,u,d,n=>by simp only[Cc,Fo.vs,AZ,AY,Qq s,Qq r]
theorem bO (T:Fo) (u d:Int) (n:Nat):(Cc u d n T).length=T.sz:=by rw[←T.vs_len,←AQ (f:=fun t:T5=>t.c0),Qq,AQ]
theorem Xi:∀(T:Fo) (u d:Int) (n:Nat),(Cc u d n T).map (·.c2)=(List.range' n T.sz).map fun (v:Nat)=>(v:Int)
 | .nil,_,_,_=>rfl
 | .node v s r,u,d,n=>by simp only[Cc,Fo.sz,AZ,AY,Xi s,Xi r];rw[←AY,List.range'_append_1,show s.sz+1+r.sz=(s.sz+r.sz)+1 by omega,List.range'_succ,AZ]
theorem Nh:∀{T:Fo} {u d:Int} {n:Nat} {e:T5},e∈Cc u d n T→(n:Int)≤e.c2∧1≤e.c3∧e.c2+e.c3≤((n+T.sz:Nat):Int)∧d+1≤e.c4∧e.c4≤d+(T.sz:Int)
 | .nil,_,_,_,_,h=>by simp[Cc] at h
 | .node v s r,u,d,n,e,h=>by
  simp only[Cc,AN,AR] at h;simp only[Fo.sz];rcases h with rfl|h|h
  ·dsimp only;omega
  ·have:=Nh h;omega
  ·have:=Nh h;omega
theorem Ut {T:Fo} {u d:Int} {n:Nat} {e:T5} (h:e∈Cc u d n T):∃v:Nat,v∈T.vs∧e.c0=v:=by have h1:=List.mem_map_of_mem (f:=fun t:T5=>t.c0) h;rw[Qq] at h1;obtain⟨v,hv,he⟩:=AO.1 h1;exact⟨v,hv,he.symm⟩
theorem Xj:∀{T:Fo} {u d:Int} {n:Nat} {e:T5},e∈Cc u d n T→(e.c1=u∧e.c4=d+1)∨∃e'∈Cc u d n T,e'.c0=e.c1∧e.c4=e'.c4+1∧e'.c2<e.c2∧e.c2+e.c3≤e'.c2+e'.c3
 | .nil,_,_,_,_,h=>by simp[Cc] at h
 | .node v s r,u,d,n,e,h=>by
  simp only[Cc,AN,AR] at h⊢;rcases h with rfl|h|h
  ·exact .inl ⟨rfl,rfl⟩
  ·right;have hb:=Nh h;rcases Xj h with⟨h1,h2⟩|⟨e',h1,h2⟩
   ·exact⟨_,.inl rfl,h1.symm,h2,oD,oD⟩
   ·exact⟨e',.inr (.inl h1),h2⟩
  ·rcases Xj h with h1|⟨e',h1,h2⟩
   ·exact .inl h1
   ·exact .inr ⟨e',.inr (.inr h1),h2⟩
theorem bP {J:Int→Nat→Prop}:∀{T:Fo} {u d:Int} {n:Nat} {e:T5},T.Jo J u→e∈Cc u d n T→J e.c1 e.c0.toNat
 | .nil,_,_,_,_,_,h=>by simp[Cc] at h
 | .node v s r,u,d,n,e,hj,h=>by
  obtain⟨h1,h2,h3⟩:=hj;simp only[Cc,AN,AR] at h;rcases h with rfl|h|h
  ·dsimp only;rw[AU];exact h1
  ·exact bP h2 h
  ·exact bP h3 h
def Jm (p:T5→Bool) (f:T5→Int) (l:List T5):Int:=((l.filter p).map f).sum
theorem xE (p:T5→Bool) (f:T5→Int):Jm p f []=0:=rfl
theorem Pj (p:T5→Bool) (f:T5→Int) (e:T5) (l:List T5):Jm p f (e::l)=(if p e then f e else 0)+Jm p f l:=by unfold Jm;rw[List.filter_cons];split<;>simp
theorem kI (p:T5→Bool) (f:T5→Int) (a b:List T5):Jm p f (a++b)=Jm p f a+Jm p f b:=by unfold Jm;rw[List.filter_append,AY,List.sum_append]
theorem xF (p:T5→Bool) (f:T5→Int) {a b:List T5} (h:a.Perm b):Jm p f a=Jm p f b:=by
 induction h with
 |nil=>rfl
 |cons x _ ih=>rw[Pj,Pj,ih]
 |swap x y l=>rw[Pj,Pj,Pj,Pj];omega
 |trans _ _ h1 h2=>rw[h1,h2]
theorem bQ (p:T5→Bool) (f:T5→Int) {l:List T5} (h:∀e∈l,p e=false):Jm p f l=0:=by unfold Jm;rw[List.filter_eq_nil_iff.2 (fun e he=>by rw[h e he];decide)];rfl
def chF:Int→List Int→Int→Nat→Fo→List (T5×List Int)
 |_,_,_,_,.nil=>[]
 |u,up,d,n,.node v s r=>(⟨(v:Int),u,(n:Int),((s.sz+1:Nat):Int),d+1⟩,(v:Int)::up)::(chF v ((v:Int)::up) (d+1) (n+1) s++chF u up d (n+1+s.sz) r)
theorem Sx:∀(T:Fo) (u:Int) (up:List Int) (d:Int) (n:Nat),(chF u up d n T).map (·.1)=Cc u d n T
 | .nil,_,_,_,_=>rfl
 | .node v s r,u,up,d,n=>by simp only[chF,Cc,AZ,AY,Sx s,Sx r]
theorem Xk {T:Fo} {u:Int} {up:List Int} {d:Int} {n:Nat} {x:T5×List Int} (h:x∈chF u up d n T):x.1∈Cc u d n T:=by rw[←Sx T u up d n];exact List.mem_map_of_mem h
theorem chF_of {T:Fo} {u:Int} (up:List Int) {d:Int} {n:Nat} {e:T5} (h:e∈Cc u d n T):∃c,(e,c)∈chF u up d n T:=by rw[←Sx T u up d n] at h;obtain⟨⟨e',c⟩,hx,rfl⟩:=AO.1 h;exact⟨c,hx⟩
inductive Way (par:Int→Int):Int→List Int→Prop
 |top {v:Int}:v<0→Way par v []
 |up {v:Int} {c:List Int}:0≤v→Way par (par v) c→Way par v (v::c)
theorem bR {par:Int→Int}:∀{T:Fo} {u:Int} {up:List Int} {d:Int} {n:Nat},(∀e∈Cc u d n T,par e.c0=e.c1)→Way par u up→∀x∈chF u up d n T,Way par x.1.c0 x.2
 | .nil,_,_,_,_,_,_,x,h=>by simp[chF] at h
 | .node v s r,u,up,d,n,hp,hu,x,h=>by
  simp only[Cc,AN,AR] at hp;simp only[chF,AN,AR] at h;have hv:Way par v ((v:Int)::up):= .up oM (by rw[hp _ (.inl rfl)];exact hu);rcases h with rfl|h|h
  ·exact hv
  ·exact bR (fun e he=>hp e (.inr (.inl he))) hv x h
  ·exact bR (fun e he=>hp e (.inr (.inr he))) hu x h
theorem Qr:∀{T:Fo} {u:Int} {up:List Int} {d:Int} {n:Nat} {x:T5×List Int},x∈chF u up d n T→(∀w∈up,w∈x.2)∧(∀w∈x.2,w∈up∨∃v∈T.vs,w=(v:Int))∧(x.2.length:Int)+d=x.1.c4+up.length
 | .nil,_,_,_,_,x,h=>by simp[chF] at h
 | .node v s r,u,up,d,n,x,h=>by
  simp only[chF,AN,AR] at h;simp only[Fo.vs,AN,AR];rcases h with rfl|h|h
  ·dsimp only;refine⟨fun w hw=>AF _ hw,fun w hw=>?_,?_⟩
   ·rcases AN.1 hw with rfl|hw
    ·exact .inr ⟨v,.inl rfl,rfl⟩
    ·exact .inl hw
   ·simp only[AJ];omega
  ·obtain⟨h1,h2,h3⟩:=Qr h;refine⟨fun w hw=>h1 w (AF _ hw),fun w hw=>?_,by simp only[AJ] at h3;omega⟩;rcases h2 w hw with h4|⟨y,h4,h5⟩
   ·rcases AN.1 h4 with rfl|h4
    ·exact .inr ⟨v,.inl rfl,rfl⟩
    ·exact .inl h4
   ·exact .inr ⟨y,.inr (.inl h4),h5⟩
  ·obtain⟨h1,h2,h3⟩:=Qr h;refine⟨h1,fun w hw=>?_,h3⟩;rcases h2 w hw with h4|⟨y,h4,h5⟩
   ·exact .inl h4
   ·exact .inr ⟨y,.inr (.inr h4),h5⟩
theorem bS:∀{T:Fo} {u:Int} {up:List Int} {d:Int} {n:Nat},T.vs.Nodup→(∀v∈T.vs,(v:Int)∉up)→∀x∈chF u up d n T,∀e∈Cc u d n T,(e.c0∈x.2↔e.c2≤x.1.c2∧x.1.c2<e.c2+e.c3)
 | .nil,_,_,_,_,_,_,x,h=>by simp[chF] at h
 | .node v s r,u,up,d,n,hn,hu,x,h=>by
  intro e he;simp only[Fo.vs,CF,AR,CC,not_or] at hn;obtain⟨⟨ag,ab⟩,ah,ai,ad⟩:=hn;simp only[Fo.vs,AN,AR] at hu;simp only[chF,AN,AR] at h;simp only[Cc,AN,AR] at he;have ae:∀y∈s.vs,(y:Int)∉(v:Int)::up:=fun y hy hq=>by
   rcases AN.1 hq with h1|h1
   ·exact ag (by rw[show v=y by omega];exact hy)
   ·exact hu y (.inr (.inl hy)) h1
  have ac:∀y∈r.vs,(y:Int)∉up:=fun y hy=>hu y (.inr (.inr hy));rcases h with rfl|h|h
  ·
   dsimp only;rcases he with rfl|he|he
   ·dsimp only;simp;omega
   ·obtain⟨y,hy,aa⟩:=Ut he;have hb:=Nh he;rw[aa];refine⟨fun hq=>(ae y hy hq).elim,fun hq=>by omega⟩
   ·obtain⟨y,hy,aa⟩:=Ut he;have hb:=Nh he;rw[aa];refine⟨fun hq=>?_,fun hq=>by omega⟩;rcases AN.1 hq with h1|h1
    ·exact(ab (by rw[show v=y by omega];exact hy)).elim
    ·exact(ac y hy h1).elim
  ·have hx:=Nh (Xk h);obtain⟨u1,u2,_⟩:=Qr h;rcases he with rfl|he|he
   ·dsimp only;exact⟨fun _=>by omega,fun _=>u1 _ AE⟩
   ·exact bS ah ae x h e he
   ·obtain⟨y,hy,aa⟩:=Ut he;have hb:=Nh he;rw[aa];refine⟨fun hq=>?_,fun hq=>by omega⟩;rcases u2 _ hq with h1|⟨z,hz,h1⟩
    ·rcases AN.1 h1 with h1|h1
     ·exact(ab (by rw[show v=y by omega];exact hy)).elim
     ·exact(ac y hy h1).elim
    ·exact(ad z hz y hy oM).elim
  ·have hx:=Nh (Xk h);obtain⟨u1,u2,_⟩:=Qr h;rcases he with rfl|he|he
   ·dsimp only;refine⟨fun hq=>?_,fun hq=>by omega⟩;rcases u2 _ hq with h1|⟨z,hz,h1⟩
    ·exact(hu v (.inl rfl) h1).elim
    ·exact(ab (by rw[show v=z by omega];exact hz)).elim
   ·obtain⟨y,hy,aa⟩:=Ut he;have hb:=Nh he;rw[aa];refine⟨fun hq=>?_,fun hq=>by omega⟩;rcases u2 _ hq with h1|⟨z,hz,h1⟩
    ·exact(hu y (.inr (.inl hy)) h1).elim
    ·exact(ad y hy z hz oM).elim
   ·exact bS ai ac x h e he
theorem bT (w:Int):∀{T:Fo} {u:Int} {up:List Int} {d:Int} {n:Nat},T.vs.Nodup→(((chF u up d n T).countP fun x=>decide (w∈x.2):Nat):Int)=if w∈up then(T.sz:Int) else Jm (fun e=>decide (e.c0=w)) (·.c3) (Cc u d n T)
 | .nil,_,_,_,_,_=>by simp[chF,Cc,Fo.sz,xE]
 | .node v s r,u,up,d,n,hn=>by
  simp only[Fo.vs,CF,AR,CC,not_or] at hn;obtain⟨⟨aa,ae⟩,ab,ac,_⟩:=hn;have h1:=bT w (T:=s) (u:=v) (up:=(v:Int)::up) (d:=d+1) (n:=n+1) ab;have h2:=bT w (T:=r) (u:=u) (up:=up) (d:=d) (n:=n+1+s.sz) ac;simp only[chF,Cc,List.countP_cons,List.countP_append,Pj,kI,Fo.sz,decide_eq_true_eq,AN] at h1 h2⊢;by_cases hu:w∈up
  ·simp only[hu,or_true,if_true] at h1 h2⊢;omega
  ·by_cases hv:w=(v:Int)
   ·have hz:Jm (fun e=>decide (e.c0=w)) (·.c3) (Cc (v:Int) (d+1) (n+1) s)=0:=bQ _ _ fun e he=>by obtain⟨y,hy,ag⟩:=Ut he;refine decide_eq_false fun hq=>aa ?_;rw[show v=y by omega];exact hy
    simp only[hu,or_false,if_false] at h1 h2⊢;rw[if_pos hv] at h1;rw[if_pos hv,if_pos hv.symm,hz];omega
   ·have ad:¬((v:Int)=w):=fun hq=>hv hq.symm;simp only[hu,hv,ad,or_self,if_false] at h1 h2⊢;omega
def Pl (bh bd:Nat):Am (Bool×T5) where
 C k:=[[(bh,row [.bool k.1] 4)],[(bd,row (Ak k.2) 33)]]
 outs k t:=if k.1 then[⟨(if t.c4<k.2.c4 then t else k.2).c3,(if t.c4<k.2.c4 then t else k.2).c4,(if t.c4<k.2.c4 then t else k.2).c2,(if t.c4<k.2.c4 then t else k.2).c1,
  AL .i64 ((AL .i64 (AL .i64 ((if t.c4<k.2.c4 then k.2 else t).c4-(if t.c4<k.2.c4 then t else k.2).c4)+1)).tdiv 2)⟩,
  ⟨(if t.c4<k.2.c4 then k.2 else t).c3,(if t.c4<k.2.c4 then k.2 else t).c4,-1,-1,0⟩] else[]
 next k t:=if k.1 then(false,if t.c4<k.2.c4 then t else k.2) else(true,t)
 err _ _:=none
def Ho (bl bn:Nat):Am (Int×Int) where
 C k:=[[(bl,row [Z9 Z8 k.1] 2)],[(bn,row [Z9 Z8 k.2] 2)]]
 outs k t:=if t.c0=k.1 then[] else if k.1= -1 then[] else[⟨k.1,-1,k.1,-1,k.2⟩]
 next k t:=if t.c0=k.1 then(k.1,AL .i64 (k.2+1)) else(t.c0,1)
 err _ _:=none
def Ej (bd bn:Nat):Am (Int×Int) where
 C k:=[[(bd,row [Z9 Z8 k.1] 2)],[(bn,row [Z9 Z8 k.2] 2)]]
 outs k t:=if t.c2= -1 then[] else[⟨t.c2,t.c3,AL .i64 (AL .i64 (k.2+1)-1),t.c4,if t.c3= -1 then 0 else AL .i64 (k.1+1)⟩]
 next k t:=if t.c2= -1 then(AL .i64 (k.1-1),k.2) else(if t.c3= -1 then 0 else AL .i64 (k.1+1),AL .i64 (k.2+1))
 err _ _:=none
def rootsOut (sts:List T5) (last n:Int):List T5:=sts++if last= -1 then[] else[⟨last,-1,last,-1,n⟩]
def Xl (lts:List T5):List T5:=
 rootsOut ((Ho 0 0).all (-1,0) (srt (ltO o1) false (lts.map fun t=>⟨t.c1,0,0,0,0⟩))) ((Ho 0 0).st (-1,0) (srt (ltO o1) false (lts.map fun t=>⟨t.c1,0,0,0,0⟩))).1 ((Ho 0 0).st (-1,0) (srt (ltO o1) false (lts.map fun t=>⟨t.c1,0,0,0,0⟩))).2
def bU (tts:List T5):List T5:=(Pl 0 0).all (false,T5.zero) (srt (ltO o1) false tts)
def Xm (lts tts:List T5):List T5:=srt (ltO o12) false (Xl lts++bU tts)
def Ni (lts tts:List T5):List T5:=srt (ltO o1) false ((Ej 0 0).all (0,0) (Xm lts tts))
def key (x:Int):T5:=⟨x,0,0,0,0⟩
def Mp (l:List (Int×Nat)):List T5:=l.flatMap fun x=>BX x.2 (key x.1)
def rootT (x:Int×Nat):T5:=⟨x.1,-1,x.1,-1,(x.2:Int)⟩
theorem Sy (x:Int×Nat) (l:List (Int×Nat)):Mp (x::l)=BX x.2 (key x.1)++Mp l:=by unfold Mp;rw[BC]
theorem kJ {l:List (Int×Nat)} {t:T5} (h:t∈Mp l):∃x∈l,t=key x.1:=by obtain⟨x,hx,h⟩:=BZ.1 h;exact⟨x,hx,(List.mem_replicate.1 h).2⟩
theorem kK (x:Int) (rest:List T5):∀(n m:Nat),m+n≤1000000000→(Ho 0 0).all (x,(m:Int)) (BX n (key x)++rest)=(Ho 0 0).all (x,((m+n:Nat):Int)) rest∧(Ho 0 0).st (x,(m:Int)) (BX n (key x)++rest)=(Ho 0 0).st (x,((m+n:Nat):Int)) rest
 |0,m,_=>⟨rfl,rfl⟩
 |n+1,m,h=>by
  have ih:=kK x rest n (m+1) oM;have hn:(Ho 0 0).next (x,(m:Int)) (key x)=(x,((m+1:Nat):Int)):=by unfold Ho key;dsimp only;rw[if_pos rfl,Ah oM];rfl
  have ho:(Ho 0 0).outs (x,(m:Int)) (key x)=[]:=by unfold Ho key;dsimp only;rw[if_pos rfl]
  rw[D6,AA];simp only[Am.all,Am.st,hn,ho,AB];rw[ih.1,ih.2,show m+1+n=m+(n+1) by omega];exact⟨rfl,rfl⟩
theorem kL:∀(l:List (Int×Nat)) (k:Int×Int),(∀x∈l,x.1≠-1∧1≤x.2∧x.2≤1000000000)→l.Pairwise (fun a b=>a.1<b.1)→(∀x∈l,x.1≠k.1)→rootsOut ((Ho 0 0).all k (Mp l)) ((Ho 0 0).st k (Mp l)).1 ((Ho 0 0).st k (Mp l)).2=(if k.1= -1 then[] else[⟨k.1,-1,k.1,-1,k.2⟩])++l.map rootT
 |[],k,_,_,_=>by
  show[]++_=_++[];rw[AB,AP];rfl
 |(x,n)::l,k,h1,h2,h3=>by
  rw[BI] at h2;obtain⟨hx,hn,aa⟩:=h1 _ AE;dsimp only at hx hn aa;have hk:=h3 _ AE;dsimp only at hk;obtain⟨n,rfl⟩:∃m,n=m+1:=⟨n-1,oM⟩
  have ih:=kL l (x,((n+1:Nat):Int)) (fun y hy=>h1 y (AF _ hy)) h2.2 (fun y hy=>by have:=h2.1 y hy;dsimp only at this⊢;omega);rw[if_neg hx] at ih;have hr:=kK x (Mp l) n 1 oM;rw[show 1+n=n+1 by omega,show((1:Nat):Int)=1 from rfl] at hr;have ab:(Ho 0 0).next k (key x)=(x,1):=by unfold Ho key;dsimp only;rw[if_neg hk]
  have ho:(Ho 0 0).outs k (key x)=if k.1= -1 then[] else[⟨k.1,-1,k.1,-1,k.2⟩]:=by unfold Ho key;dsimp only;rw[if_neg hk]
  rw[Sy,D6,AA];simp only[Am.all,Am.st,ab,ho,hr.1,hr.2];unfold rootsOut at ih⊢;rw[AV,ih];rfl
theorem kM:∀(s:List T5),s.Pairwise (fun a b=>a.c0≤b.c0)→(∀t∈s,t=key t.c0)→∃l,s=Mp l∧l.Pairwise (fun a b=>a.1<b.1)∧∀x∈l,1≤x.2∧key x.1∈s
 |[],_,_=>⟨[],rfl,DJ,by simp⟩
 |t::s,h1,h2=>by
  rw[BI] at h1;obtain⟨l,rfl,hl,hx⟩:=kM s h1.2 fun u hu=>h2 u (AF _ hu);have ht:=h2 t AE;have aa:∀x∈l,t.c0≤x.1:=fun x ab=>h1.1 _ (hx x ab).2;cases l with
  |nil=>
   refine⟨[(t.c0,1)],by rw[Sy];show[t]=[key t.c0]++[];rw[←ht];rfl,List.pairwise_singleton _ _,?_⟩;intro x hx;simp only[AX] at hx;subst hx;exact⟨AI _,by rw[←ht];exact AE⟩
  |cons y l=>
   obtain⟨x,n⟩:=y;by_cases ac:x=t.c0
   ·subst ac;refine⟨(t.c0,n+1)::l,by rw[Sy,Sy];dsimp only;rw[D6,AA,←ht],?_,?_⟩
    ·rw[BI] at hl⊢;exact hl
    ·intro z hz;rcases AN.1 hz with rfl|hz
     ·exact⟨oD,by dsimp only;rw[←ht];exact AE⟩
     ·exact⟨(hx z (AF _ hz)).1,AF _ (hx z (AF _ hz)).2⟩
   ·refine⟨(t.c0,1)::(x,n)::l,by rw[Sy (t.c0,1)];dsimp only;rw[←ht];rfl,?_,?_⟩
    ·rw[BI];refine⟨fun z hz=>?_,hl⟩;have h3:=aa _ AE;dsimp only at h3⊢;rcases AN.1 hz with rfl|ad
     ·dsimp only;omega
     ·have:=(BI.1 hl).1 z ad;dsimp only at this;omega
    ·intro z hz;rcases AN.1 hz with rfl|hz
     ·exact⟨AI _,by dsimp only;rw[←ht];exact AE⟩
     ·exact⟨(hx z hz).1,AF _ (hx z hz).2⟩
theorem kN:∀{l:List (Int×Nat)},l.Pairwise (fun a b=>a.1<b.1)→∀{x:Int×Nat},x∈l→(Mp l).count (key x.1)=x.2
 |y::l,h,x,hx=>by
  rw[BI] at h;rw[Sy,List.count_append,List.count_replicate];rcases AN.1 hx with rfl|hx
  ·have h0:(Mp l).count (key x.1)=0:=by rw[List.count_eq_zero];intro hm;obtain⟨z,hz,he⟩:=kJ hm;have:=h.1 z hz;have:=congrArg T5.c0 he;simp only[key] at this;omega
   rw[h0];simp
  ·have ih:=kN h.2 hx;have aa:¬(key y.1=key x.1):=by intro he;have:=h.1 x hx;have:=congrArg T5.c0 he;simp only[key] at this;omega
   rw[ih];simp[aa]
theorem bV {x y:Int} (h:key x=key y):x=y:=congrArg T5.c0 h
theorem xG (lab:List Int):(Bb lab).map (fun t=>(⟨t.c1,0,0,0,0⟩:T5))=lab.map key:=by
 refine DI fun i=>?_;unfold Bb;rw[CH,BH,BH];by_cases h:i<lab.length
 ·rw[CK h,AG h];simp[key,AM,h]
 ·rw[BW oA15,BW oM];rfl
theorem xH (lab:List Int) (x:Int):(lab.map key).count (key x)=lab.count x:=by
 induction lab with
 |nil=>rfl
 |cons y l ih=>
  rw[AZ,List.count_cons,List.count_cons,ih];by_cases h:y=x
  ·subst h;simp
  ·have:¬key y=key x:=fun e=>h (bV e);simp[h,this]
theorem kO {lab:List Int} (h0:∀x∈lab,0≤x) (ae:lab.length≤1000000):∃l:List (Int×Nat),Xl (Bb lab)=l.map rootT∧l.Pairwise (fun a b=>a.1<b.1)∧(∀x∈l,x.1∈lab∧x.2=lab.count x.1)∧∀y∈lab,∃x∈l,x.1=y:=by
 have hp:(srt (ltO o1) false (lab.map key)).Perm (lab.map key):=Bt _;have hs:(srt (ltO o1) false (lab.map key)).Pairwise (fun a b=>a.c0≤b.c0):=(Lk (Eg o1) false (lab.map key)).imp fun {a b} h=>by
  simp only[Bool.false_eq_true,if_false] at h;have h2:¬(ltO o1 b a=true):=by rw[h];decide
  rw[Pb] at h2;omega
 obtain⟨l,hl,aa,ac⟩:=kM _ hs (fun t ht=>by
  obtain⟨x,_,rfl⟩:=AO.1 (hp.mem_iff.1 ht);rfl)
 have ab:∀x∈l,x.1∈lab:=fun x hx=>by obtain⟨y,hy,he⟩:=AO.1 (hp.mem_iff.1 (ac x hx).2);rw[←bV he];exact hy
 have ad:∀x∈l,x.2=lab.count x.1:=fun x hx=>by rw[←kN aa hx,←hl,hp.count_eq,xH]
 refine⟨l,?_,aa,fun x hx=>⟨ab x hx,ad x hx⟩,fun y hy=>?_⟩
 ·unfold Xl;rw[xG,hl,kL l (-1,0) (fun x hx=>⟨fun he=>by have:=h0 _ (ab x hx);omega,(ac x hx).1,by have:=List.count_le_length (a:=x.1) (l:=lab);have:=ad x hx;omega⟩) aa (fun x hx he=>by have:=h0 _ (ab x hx);dsimp only at he;omega)];rfl
 ·obtain⟨x,hx,he⟩:=kJ (l:=l) (by rw[←hl];exact hp.mem_iff.2 (AO.2 ⟨y,hy,rfl⟩));exact⟨x,hx,(bV he).symm⟩
namespace Av
variable {N:Nat} {es:List IE} {lab:List Int} {fl:List Bool} {r b:List T5}
theorem roots_for (h:Av N es lab fl r b) (hf:∀e∈es,inE N e) (hN:N≤1000000):(Xl (Bb lab)).length+(Ba (edT es) fl).length≤N:=by
 classical
 obtain⟨l,hl,ac,aa,_⟩:=kO (lab:=lab) (fun x hx=>by obtain⟨v,rfl,_⟩:=h.labs.mem hx;omega) (by rw[h.labs.len];exact hN);have hc:=bN (g:=gE es) (n:=N) (fun k v=>decide (Mn (gE es) (fun j=>j<k) v)) (fun i=>decide (¬Cn (gE es) (fun j=>j<i) (gE es i).1 (gE es i).2)) (fun k v=>decide_eq_true_iff) (fun i=>decide_eq_true_iff) es.length (gE_lt hf);have h1:(l.map fun x=>x.1.toNat).length≤((BA N).filter fun v=>decide (Mn (gE es) (fun j=>j<es.length) v)).length:=by
  refine List.Nodup.length_le_of_subset ?_ ?_
  ·refine List.Pairwise.map _ (R:=fun (a b:Int×Nat)=>a.1<b.1∧0≤a.1) (fun a b h=>by omega) ?_;refine EA ?_ ac;intro a b ha _ ab;obtain⟨v,hv,_⟩:=h.labs.mem (aa a ha).1;omega
  ·intro v hv;obtain⟨x,hx,rfl⟩:=AO.1 hv;obtain⟨v,hv,ag,hm⟩:=h.labs.mem (aa x hx).1;rw[hv];exact BV.2 ⟨A9.2 oM,decide_eq_true (by simpa using hm)⟩
 have h2:((Ba (edT es) fl).map fun t=>t.c0.toNat).length≤((BA es.length).filter fun i=>decide (¬Cn (gE es) (fun j=>j<i) (gE es i).1 (gE es i).2)).length:=by
  refine List.Nodup.length_le_of_subset ?_ ?_
  ·refine List.Pairwise.map _ (R:=fun (a b:T5)=>a.c0<b.c0∧0≤a.c0) (fun a b h=>by omega) ?_;have hp:(Ba (edT es) fl).Pairwise fun a b=>a.c0<b.c0:=by have:=List.Pairwise.sublist (R:=fun x y:Int=>x<y) (Qp (edT es) fl) (by rw[A6];exact Pi es);rwa[A6] at this
   refine EA ?_ hp;intro a b ha _ ab;obtain⟨i,d,_,_,rfl⟩:=h.edge ha;exact⟨ab,oD⟩
  ·intro v hv;obtain⟨t,ht,rfl⟩:=AO.1 hv;obtain⟨i,d,hd,ad,rfl⟩:=h.edge ht;have hi:=(AK.1 hd).1;have hk:=(h.fors.2 i true ad).1 rfl;refine BV.2 ⟨A9.2 oD,decide_eq_true ?_⟩;dsimp only;rw[AU];exact fun ae=>hk.2 (ae.mono fun j hj=>⟨oM,hj⟩)
 rw[AQ] at h1 h2;rw[hl,AQ];omega
end Av
theorem Xn {α β:Type} {f:α→β}:∀{l:List α},(l.map f).Nodup→∀{x y:α},x∈l→y∈l→f x=f y→x=y
 |[],_,_,_,h,_,_=>by simp at h
 |a::l,hn,x,y,hx,hy,h=>by
  rw[AZ,CF] at hn;rcases AN.1 hx with rfl|ab
  ·rcases AN.1 hy with rfl|aa
   ·rfl
   ·exact(hn.1 (h▸List.mem_map_of_mem aa)).elim
  ·rcases AN.1 hy with rfl|aa
   ·exact(hn.1 (h▸List.mem_map_of_mem ab)).elim
   ·exact Xn hn.2 ab aa h
def Er (b:List T5) (x:Int):T5:=(b.find? fun t=>t.c0==x).getD T5.zero
theorem Qs {b:List T5} (hn:(b.map (·.c0)).Nodup) {t:T5} (ht:t∈b):Er b t.c0=t:=by
 unfold Er;cases hf:b.find? fun u=>u.c0==t.c0 with
 |none=>
  rw[D2] at hf;exact(hf t ht oA19).elim
 |some q=>
  have h1:=List.find?_some hf;exact Xn hn (DD hf) ht (by simpa using h1)
def Dc (b:List T5) (t:T5):T5:=
 if t.c4<(Er b (Fb t.c0)).c4 then⟨t.c3,t.c4,t.c2,t.c1,((Er b (Fb t.c0)).c4-t.c4+1)/2⟩ else⟨t.c3,t.c4,-1,-1,0⟩
def Kf (b f:List T5):List T5:=f.flatMap fun e=>[Er b (2*e.c0),Er b (2*e.c0+1)]
theorem xI (b:List T5) (f:List T5):Kf b f=(f.flatMap fun e=>[2*e.c0,2*e.c0+1]).map (Er b):=by unfold Kf;rw[List.map_flatMap];rfl
theorem tdiv2 {x y:Int} (hx:0≤x) (aa:x<y) (hy:y≤1000000000):AL .i64 ((AL .i64 (AL .i64 (y-x)+1)).tdiv 2)=(y-x+1)/2:=by rw[Ah (n:=y-x) oM,Ah (n:=y-x+1) oM,CS oM,Ah oM]
theorem kP (b:List T5):∀(f:List T5) (d:T5),(∀e∈f,0≤e.c0∧(Er b (2*e.c0)).c0=2*e.c0∧(Er b (2*e.c0+1)).c0=2*e.c0+1∧0≤(Er b (2*e.c0)).c4∧(Er b (2*e.c0)).c4≤1000000000∧0≤(Er b (2*e.c0+1)).c4∧(Er b (2*e.c0+1)).c4≤1000000000∧(Er b (2*e.c0)).c4≠(Er b (2*e.c0+1)).c4)→((Pl 0 0).all (false,d) (Kf b f)).Perm ((Kf b f).map (Dc b))
 |[],_,_=> .refl _
 |e::f,d,h=>by
  obtain⟨h0,h1,h2,h3,h4,h5,h6,h7⟩:=h e AE;have ih:=fun d=>kP b f d fun e he=>h e (AF _ he);have e1:Kf b (e::f)=Er b (2*e.c0)::Er b (2*e.c0+1)::Kf b f:=by unfold Kf;rw[BC];rfl
  have f1:Fb (Er b (2*e.c0)).c0=2*e.c0+1:=by rw[h1];unfold Fb;rw[if_pos oM]
  have f2:Fb (Er b (2*e.c0+1)).c0=2*e.c0:=by rw[h2];unfold Fb;rw[if_neg oM];omega
  generalize hu:Er b (2*e.c0)=u at*;generalize ht:Er b (2*e.c0+1)=t at*;rw[e1];show((Pl 0 0).all (false,d) (u::t::Kf b f)).Perm (Dc b u::Dc b t::(Kf b f).map (Dc b));have e2:(Pl 0 0).all (false,d) (u::t::Kf b f)=(Pl 0 0).outs (true,u) t++(Pl 0 0).all (false,if t.c4<u.c4 then t else u) (Kf b f):=by simp only[Am.all];rfl
  rw[e2];have aa:Dc b u=if u.c4<t.c4 then⟨u.c3,u.c4,u.c2,u.c1,(t.c4-u.c4+1)/2⟩ else⟨u.c3,u.c4,-1,-1,0⟩:=by unfold Dc;rw[f1,ht]
  have ab:Dc b t=if t.c4<u.c4 then⟨t.c3,t.c4,t.c2,t.c1,(u.c4-t.c4+1)/2⟩ else⟨t.c3,t.c4,-1,-1,0⟩:=by unfold Dc;rw[f2,hu]
  have ho:(Pl 0 0).outs (true,u) t=if t.c4<u.c4 then[Dc b t,Dc b u] else[Dc b u,Dc b t]:=by
   unfold Pl;dsimp only;rw[if_pos rfl,aa,ab];by_cases hc:t.c4<u.c4
   ·rw[if_pos hc,if_pos hc,if_pos hc,if_pos hc,if_neg oM,tdiv2 h5 hc h4]
   ·rw[if_neg hc,if_neg hc,if_neg hc,if_neg hc,if_pos oM,tdiv2 h3 oM h6]
  rw[ho];split
  ·exact(CT _ _ _).trans (((ih _).cons _).cons _)
  ·exact((ih _).cons _).cons _
namespace Av
variable {N:Nat} {es:List IE} {lab:List Int} {fl:List Bool} {r b:List T5}
theorem nums (h:Av N es lab fl r b) (hf:∀e∈es,inE N e):(b.map (·.c0)).Perm ((Ba (edT es) fl).flatMap fun e=>[2*e.c0,2*e.c0+1]):=by
 have h1:(b.map (·.c0)).Perm (r.map (·.c0)):=by
  rw[h.tours];unfold Ke;rw[kH]
  conv=>rhs;rw[←xD r,CH]
  exact(h.idx_perm hf).map _
 refine h1.trans ((h.arcs.perm.map _).trans (DF ?_));unfold Ku;rw[List.map_flatMap];rfl
theorem nums_nodup (h:Av N es lab fl r b) (hf:∀e∈es,inE N e):(b.map (·.c0)).Nodup:=by refine(h.nums hf).nodup_iff.2 ?_;have:=bJ h.arcs.nd (Bb lab);unfold Ku at this;rw[List.map_flatMap] at this;exact this
theorem pair_perm (h:Av N es lab fl r b) (hf:∀e∈es,inE N e):(Kf b (Ba (edT es) fl)).Perm b:=by
 rw[xI];refine(((h.nums hf).map (Er b)).symm).trans (DF ?_);rw[CH]
 conv=>rhs;rw[←List.map_id b]
 exact List.map_congr_left fun t ht=>Qs (h.nums_nodup hf) ht
theorem num_b (h:Av N es lab fl r b) (hf:∀e∈es,inE N e) {e:T5} (he:e∈Ba (edT es) fl) {x:Int} (hx:x=2*e.c0∨x=2*e.c0+1):∃t∈b,t.c0=x:=by have:=(h.nums hf).mem_iff (a:=x);obtain⟨t,ht,hq⟩:=AO.1 (this.2 (BZ.2 ⟨e,he,by simpa using hx⟩));exact⟨t,ht,hq⟩
theorem look_flip (h:Av N es lab fl r b) (hf:∀e∈es,inE N e) {i n:Nat} (hi:i<r.length) (hr:Fc r i=true):Er b (Fb (Dq r i n).c0)=Dq r i (Hn r i n):=by
 obtain⟨h1,h2⟩:=h.bro_at hf (n:=n) hi;have h3:(Dq r i (Hn r i n)).c0=Fb (Dq r i n).c0:=by unfold Dq;dsimp only;rw[h2,h.arcs.bro (Di Dp hi n)]
 rw[←h3];exact Qs (h.nums_nodup hf) (h.arc_b hi hr h1)
theorem vis_at (h:Av N es lab fl r b) (hf:∀e∈es,inE N e) {i n:Nat} (hi:i<r.length) (hr:Fc r i=true):Dc b (Dq r i n)=if n<Hn r i n then⟨(at5 r i).c3,(n:Int),(vtA r i (n+1):Int),(vtA r i n:Int),((Hn r i n:Int)-n+1)/2⟩ else⟨(at5 r i).c3,(n:Int),-1,-1,0⟩:=by
 obtain⟨_,_,c1,_,c2,_⟩:=h.arc_g hf (Di Dp hi n);have e1:((Dq r i n).c4)=(n:Int):=rfl;have e2:(Dq r i n).c3=(at5 r i).c3:=h.arcs.it_lab (h.hl hf) hi n;have e3:(Dq r i n).c2=(vtA r i (n+1):Int):=by rw[h.vt_succ hi];show(at5 r (itF (Ay r) n i)).c2=_;omega
 have e4:(Dq r i n).c1=(vtA r i n:Int):=by unfold vtA;show(at5 r (itF (Ay r) n i)).c1=_;omega
 unfold Dc;rw[h.look_flip hf hi hr,e1,e2,e3,e4];show(if(n:Int)<(Hn r i n:Int) then _ else _)=_;by_cases hc:n<Hn r i n
 ·rw[if_pos hc,if_pos oM];rfl
 ·rw[if_neg hc,if_neg oM]
theorem pairs_sorted (h:Av N es lab fl r b) (hf:∀e∈es,inE N e):(Kf b (Ba (edT es) fl)).Pairwise fun x y=>ltO o1 x y=true:=by
 have h1:(Ba (edT es) fl).Pairwise fun a b=>a.c0<b.c0:=by have:=List.Pairwise.sublist (R:=fun x y:Int=>x<y) (Qp (edT es) fl) (by rw[A6];exact Pi es);rwa[A6] at this
 have aa:∀e∈Ba (edT es) fl,(Er b (2*e.c0)).c0=2*e.c0∧(Er b (2*e.c0+1)).c0=2*e.c0+1:=fun e he=>by obtain⟨t,ht,hq⟩:=h.num_b hf he (.inl rfl);obtain⟨u,hu,ab⟩:=h.num_b hf he (.inr rfl);rw[←ab,Qs (h.nums_nodup hf) hu,←hq,Qs (h.nums_nodup hf) ht];exact⟨rfl,rfl⟩
 unfold Kf;rw[List.pairwise_flatMap];refine⟨fun e he=>?_,EA (fun {a c} ha hc ac=>?_) h1⟩
 ·obtain⟨l1,l2⟩:=aa e he;simp only[BI,AX,DP,false_implies,implies_true,DJ,and_true,forall_eq];rw[Pb];omega
 ·obtain⟨a1,a2⟩:=aa a ha;obtain⟨c1,c2⟩:=aa c hc;intro x hx y hy;rw[Pb];simp only[AN,DP,or_false] at hx hy;rcases hx with rfl|rfl<;>rcases hy with rfl|rfl<;>omega
theorem turns_perm (h:Av N es lab fl r b) (hf:∀e∈es,inE N e) (hN:N≤1000000):(bU b).Perm (b.map (Dc b)):=by
 unfold bU;rw[srtOf (h.pair_perm hf) (h.pairs_sorted hf)];refine(kP b _ _ ?_).trans ((h.pair_perm hf).map _);intro e he;obtain⟨j,d,_,_,rfl⟩:=h.edge he;obtain⟨t,ht,hq⟩:=h.num_b hf he (.inl rfl);obtain⟨u,hu,aa⟩:=h.num_b hf he (.inr rfl);rw[←aa,Qs (h.nums_nodup hf) hu,←hq,Qs (h.nums_nodup hf) ht];dsimp only at hq aa;obtain⟨i,n,hi,hr,hn,rfl⟩:=h.b_arc ht;have ab:u=Dq r i (Hn r i n):=by rw[←h.look_flip hf hi hr,hq,show Fb (2*(j:Int))=2*j+1 by unfold Fb;rw[if_pos oM],←aa,Qs (h.nums_nodup hf) hu]
 obtain⟨ac,_⟩:=h.bro_at hf (n:=n) hi;have ad:=(h.tw hf hi).bro_ne n hn;have hp:=(h.arcs.per hi).2.1;have ae:=h.len;have ag:=h.roots_for hf hN;refine⟨oD,rfl,rfl,?_,?_,?_,?_,?_⟩
 ·show 0≤((n:Nat):Int);omega
 ·show((n:Nat):Int)≤_;omega
 ·rw[ab];show 0≤((Hn r i n:Nat):Int);omega
 ·rw[ab];show((Hn r i n:Nat):Int)≤_;omega
 ·rw[ab];show((n:Nat):Int)≠((Hn r i n:Nat):Int);omega
end Av
theorem Iv.vis {P:Nat} {vt bro:Nat→Nat} {x:Int} {f:Nat→T5} (hf:∀n,n<P→f n=if n<bro n then⟨x,(n:Int),(vt (n+1):Int),(vt n:Int),((bro n:Int)-n+1)/2⟩ else⟨x,(n:Int),-1,-1,0⟩):∀{T:Fo} {p q:Nat},Iv P vt bro T p q→(List.range' p (2*T.sz)).map f=trv x p (vt p) T
 | .nil,p,q,h=>rfl
 | .node v s r,p,q,h=>by
  obtain⟨hp,hd,ad,rfl,ab,ac,h1,h2⟩:=h;have e1:=h1.len;have i1:=h1.vis hf;have i2:=h2.vis hf;have e2:2*(Fo.node (vt (p+1)) s r).sz=(2*s.sz+(2*r.sz+1))+1:=by simp only[Fo.sz];omega
  rw[e2,List.range'_succ,←List.range'_append_1,List.range'_succ,AZ,AY,AZ,i1];have aa:bro p=p+1+2*s.sz:=e1;rw[ac,aa] at i2;rw[show p+1+2*s.sz+1=p+2+2*s.sz by omega] at i2⊢;rw[i2];simp only[trv];congr 1
  ·rw[hf p hp,if_pos hd,aa];congr 1;omega
  ·congr 2;rw[hf _ oM,if_neg (by rw[←aa,ab];omega)]
theorem kQ {α:Type} (L:List α) (i:Nat) {p:Nat→Bool}:∀{n:Nat},(∀j,j<n→p j=true→j=i)→(BA n).flatMap (fun j=>if p j then(if j=i then L else[]) else[])=if i<n∧p i=true then L else[]
 |0,_=>by simp
 |n+1,h=>by
  rw[DT,B9,kQ L i (n:=n) fun j hj=>h j oM,BC,List.flatMap_nil,AP];by_cases hp:p n=true
  ·have:=h n oM hp;subst this;rw[if_pos hp,if_pos rfl,if_neg oM,if_pos ⟨oM,hp⟩,AB]
  ·rw[if_neg hp,AP];by_cases hi:i<n∧p i=true
   ·rw[if_pos hi,if_pos ⟨oM,hi.2⟩]
   ·rw[if_neg hi,if_neg];rintro⟨h1,h2⟩;have h4:i<n:=by
     rcases EH (Nat.lt_succ_iff.1 h1) with rfl|h3
     ·exact(hp h2).elim
     ·exact h3
    exact hi ⟨h4,h2⟩
end Go.Proofs.YtaofijjjheiknaaGreat
