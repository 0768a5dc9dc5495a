/-
  Parts of the proof, put together (11). No condition.
-/
import Derived.Test.YtaofijjjheiknaaGreatQ10
set_option linter.unusedVariables false
set_option linter.unusedSimpArgs false
set_option linter.unnecessarySimpa false
set_option maxHeartbeats 4000000
open Bool renaming false_eq_true→CE
open Go.IntKind renaming wrap→AL
open Go.Proofs.Tryz renaming prog→AC
open Int renaming toNat_natCast→AV,tdiv_eq_ediv_of_nonneg→CR
open List renaming cons_append→AA,nil_append→AB,getElem?_eq_getElem→AG,length_append→AH,getElem?_eq_some_iff→AK,mem_cons→AM,mem_map→AN,getD_eq_getElem?_getD→AP,append_nil→AQ,length_map→AR,mem_append→AS,mem_singleton→AW,mem_of_getElem?→AY,map_cons→AZ,map_append→A0,take_of_length_le→A6,pairwise_iff_getElem→A9,pairwise_map→BA,mem_range→BD,range→BE,pairwise_cons→BF,getElem?_append_right→BL,getElem?_map→BM,drop_eq_getElem_cons→BO,take_add_one→BP,getElem?_drop→BS,replicate→BT,take_append_drop→BV,getElem?_take→BW,getElem?_eq_none→BY,mem_flatMap→BZ,mem_iff_getElem→B3,perm_middle→B4,pairwise_append→B8,nodup_append→B9,map_nil→CG,perm_append_comm→CI,flatMap_append→CJ,getElem?_range→CO,getElem?_set_ne→CQ,getElem_of_mem→CU,length_singleton→CY,mem_iff_getElem?→CZ,mem_of_find?_eq_some→DC,getElem?_set_self→DI,length_set→DS,not_mem_nil→DU,find?_eq_none→DY,range_succ→D2,set_append_right→EA
open List.Pairwise renaming nil→DH,imp_of_mem→EC
open List.Perm renaming swap→CS
open Nat renaming reduceAdd→AD,le_refl→AI,zero_le→AU,add_zero→B7,not_lt_zero→EE,sub_self→EL
open Option renaming map_some→DL
open Option.some renaming inj→BC,injEq→BG
open Go.Proofs.Tryz
open Go.Value renaming int→Z9
open Go.IntKind renaming i64→Z8
namespace Go.Proofs.YtaofijjjheiknaaGreat
open Go.SL Go.Tup
def gv (n:Int) (p:Option Addr) (m cap:Nat):Value:= .agg #[Z9 Z8 n,.slice p m cap]
def inE (n:Int) (e:IE):Prop:=0≤e.1∧e.1<n∧0≤e.2∧e.2<n
instance (n:Int) (e:IE):Decidable (inE n e):=by unfold inE;infer_instance
def He (n:Int) (es:List IE):Bool:=decide (0≤n∧n≤1073741824∧es.length≤1073741824)&&es.all fun e=>decide (inE n e)
theorem jK (n:Int) (p:Option Addr) (m cap:Nat) (es:List IE) (c:Aa) (hv:Rw ecl 2 p m es c) (hm:m≤maxLen):CtQ AC 16 [gv n p m cap] [c] (.bool (He n es)):=by
 have hl:=hv.1;simp only[maxLen] at hm;have ad:∀i e,es[i]? =some e→¬inE n e→He n es=false:=fun i e hi he=>by unfold He;rw[Bool.and_eq_false_iff];exact .inr (by simp only[List.all_eq_false,decide_eq_true_eq];exact⟨e,AY hi,he⟩)
 unfold gv;by_cases h1:n<0
 ·have hb:He n es=false:=by unfold He;rw[decide_eq_false oM];rfl
  rw[hb];refine cG func16 fun _=>?_;repeat(refine sA ?_;intros)
  (refine dP [c] ?_;exact⟨rfl,rfl⟩)
 by_cases h2:1073741824<n
 ·have hb:He n es=false:=by unfold He;rw[decide_eq_false oM];rfl
  rw[hb];refine cG func16 fun _=>?_;repeat(refine sA ?_;intros)
  (refine dP [c] ?_;exact⟨rfl,rfl⟩)
 by_cases h3:1073741824<m
 ·have hb:He n es=false:=by unfold He;rw[decide_eq_false oM];rfl
  rw[hb];refine cG func16 fun _=>?_;repeat(refine sA ?_;intros)
  (refine dP [c] ?_;exact⟨rfl,rfl⟩)
 refine cG func16 fun _=>?_;repeat(refine sA ?_;intros)
 rename_i b1;refine G.loop (X:=Nat) (fun i=>i≤m∧∀j e,j<i→es[j]? =some e→inE n e)
  (fun i=>[(3,Z9 Z8 i),(1,pv b1)])
  (fun _=>[[(b1,row [Z9 Z8 n,.slice p m cap] 24)],c]) (fun i=>m-i) 0 ⟨AU _,fun j e h=>by omega⟩ (body:=?_)
 rintro i ⟨hi,ae⟩;by_cases aj:i<m
 ·obtain⟨b,off,cs,T,fz,rfl,rfl,ag,ai⟩:=hv.pos Nr oM;have ac:es[i]? =some es[i]:=AG oM;have hc:=ag i _ ac;have aa:=ad i _ ac;generalize he:es[i]=e at*;obtain⟨u,v⟩:=e;have ak:(cs.drop (off+i*2)).take 2=[Z9 Z8 u,Z9 Z8 v]:=hc;by_cases g1:u<0
  ·rw[aa (by unfold inE;dsimp only;omega)];repeat(refine sA ?_;intros)
   (refine dP [[(b,An cs T fz)]] ?_;exact⟨rfl,rfl⟩)
  by_cases g2:n≤u
  ·rw[aa (by unfold inE;dsimp only;omega)];repeat(refine sA ?_;intros)
   (refine dP [[(b,An cs T fz)]] ?_;exact⟨rfl,rfl⟩)
  by_cases g3:v<0
  ·rw[aa (by unfold inE;dsimp only;omega)];repeat(refine sA ?_;intros)
   (refine dP [[(b,An cs T fz)]] ?_;exact⟨rfl,rfl⟩)
  by_cases g4:n≤v
  ·rw[aa (by unfold inE;dsimp only;omega)];repeat(refine sA ?_;intros)
   (refine dP [[(b,An cs T fz)]] ?_;exact⟨rfl,rfl⟩)
  repeat(refine sA ?_;intros)
  refine Dn.round (i+1) ⟨oM,fun j e hj ab=>?_⟩ oM;by_cases ah:j=i
  ·subst ah;rw[ac] at ab;simp only[BG] at ab;subst ab;exact⟨oD,oD,oD,oD⟩
  ·exact ae j e oM ab
 ·obtain rfl:i=m:=by omega
  have hb:He n es=true:=by unfold He;rw[decide_eq_true oM,Bool.true_and,List.all_eq_true];intro e he;obtain⟨j,hj,rfl⟩:=CU he;exact decide_eq_true (ae j _ oM (AG hj))
  rw[hb];repeat(refine sA ?_;intros)
  (refine dP [c] ?_;exact⟨rfl,rfl⟩)
theorem jL (n:Int) (p:Option Addr) (m cap:Nat) (a b:Int) (hm:m≤maxLen):CtQ AC 17 [gv n p m cap,Z9 Z8 a,Z9 Z8 b] [] (.bool (dec (n≤a∧(m:Int)≤b))):=by
 simp only[maxLen] at hm;unfold gv;by_cases h1:n≤a
 ·by_cases h2:(m:Int)≤b
  ·rw[Dt ⟨h1,h2⟩];refine cG func17 fun _=>?_;repeat(refine sA ?_;intros)
   (refine dP [] ?_;exact⟨congrArg Value.bool (Dt h2),rfl⟩)
  ·rw[Jq oM];refine cG func17 fun _=>?_;repeat(refine sA ?_;intros)
   (refine dP [] ?_;exact⟨congrArg Value.bool (Jq h2),rfl⟩)
 ·rw[Jq oM];refine cG func17 fun _=>?_;repeat(refine sA ?_;intros)
  (refine dP [] ?_;exact⟨rfl,rfl⟩)
open Go.Gr
def gE (es:List IE) (i:Nat):Ed:=match es[i]? with
 |some e=>(e.1.toNat,e.2.toNat)
 |none=>(0,0)
def Fa (es:List IE) (ob:List Bool) (w:Int) (i:Nat):Prop:=∃e,es[i]? =some e∧e.1≠w∧e.2≠w∧ob[i]?≠some true
def Bk (l:List Int):List Value:=l.map (Value.int .i64)
theorem Mw {l:List Int} {i:Nat} {x:Int} (h:l[i]? =some x):(Bk l)[i]? =some (Z9 Z8 x):=by unfold Bk;rw[BM,h];rfl
theorem Mx (l:List Int) (i:Nat) (x:Int):(Bk l).set i (Z9 Z8 x)=Bk (l.set i x):=by unfold Bk;rw[List.map_set]
structure Lz (g:Nat→Ed) (S:Nat→Prop) (N:Nat) (w:Int) (l:List Int):Prop where
 len:l.length=N
 at_:∀v,v<N→(v:Int)≠w→∃x:Nat,l[v]? =some (x:Int)∧Cn g S v x∧x≤v∧(x:Int)≠w
 out:∀v,v<N→(v:Int)=w→l[v]? =some (-1)
structure En (g:Nat→Ed) (S:Nat→Prop) (N:Nat) (w:Int) (l:List Int):Prop where
 len:l.length=N
 at_:∀v,v<N→(v:Int)≠w→∃x:Nat,l[v]? =some (x:Int)∧Cn g S v x∧x≤v∧∀u,Cn g S v u→x≤u
 out:∀v,v<N→(v:Int)=w→l[v]? =some (-1)
def Le (l:List Int):Nat:=(l.map Int.toNat).sum
theorem Wo {l:List Int} {i:Nat} {x y:Int} (h:l[i]? =some x) (hy:y.toNat<x.toNat):Le (l.set i y)<Le l:=by
 obtain⟨hi,rfl⟩:=AK.1 h;unfold Le;have e1:l=l.take i++l[i]::l.drop (i+1):=by rw[←BO hi,BV]
 have e2:l.set i y=l.take i++y::l.drop (i+1):=by rw[List.set_eq_take_append_cons_drop,if_pos hi]
 rw[e2]
 conv=>rhs;rw[e1]
 simp only[A0,AZ,List.sum_append_nat,List.sum_cons];omega
theorem Lz.done {g:Nat→Ed} {S:Nat→Prop} {N:Nat} {w:Int} {l:List Int} (h:Lz g S N w l) (hs:∀i,S i→l[(g i).1]? =l[(g i).2]?):En g S N w l:=by
 refine⟨h.len,fun v hv hw=>?_,h.out⟩;obtain⟨x,h1,h2,h3,_⟩:=h.at_ v hv hw;refine⟨x,h1,h2,h3,fun u hu=>?_⟩;have h4:l[u]? =l[v]? :=hu.stay (X:=fun y=>l[y]? =l[v]?) rfl fun i hi=>by rw[hs i hi]
 rw[h1] at h4;have aa:u<N:=by rw[←h.len];exact(AK.1 h4).1
 by_cases ab:(u:Int)=w
 ·have:=h.out u aa ab;rw[h4] at this;simp only[BG] at this;omega
 ·obtain⟨y,h5,_,h6,_⟩:=h.at_ u aa ab;rw[h4] at h5;simp only[BG] at h5;omega
theorem Lz.put {g:Nat→Ed} {S:Nat→Prop} {N:Nat} {w:Int} {l:List Int} (h:Lz g S N w l) {a b:Nat} {x y:Nat} (ha:l[a]? =some (x:Int)) (hb:l[b]? =some (y:Int)) (hj:Cn g S b a) (ae:x≤y) (ab:(a:Int)≠w) (ac:(b:Int)≠w):Lz g S N w (l.set b (x:Int)):=by
 have ag:b<N:=by rw[←h.len];exact(AK.1 hb).1
 have ad:a<N:=by rw[←h.len];exact(AK.1 ha).1
 refine⟨by rw[DS];exact h.len,fun v hv hw=>?_,fun v hv hw=>?_⟩
 ·by_cases aa:v=b
  ·subst aa;obtain⟨x',h1,h2,h3,h4⟩:=h.at_ a ad ab;obtain⟨y',g1,g2,g3,g4⟩:=h.at_ v hv hw;rw[ha] at h1;rw[hb] at g1;simp only[BG] at h1 g1;obtain rfl:x=x':=by omega
   exact⟨x,by rw[DI (by rw[h.len];exact hv)],hj.trans h2,oM,h4⟩
  ·obtain⟨x',h1,h2,h3⟩:=h.at_ v hv hw;exact⟨x',by rw[CQ (Ne.symm aa)];exact h1,h2,h3⟩
 ·have aa:v≠b:=fun e=>ac (e▸hw);rw[CQ (Ne.symm aa)];exact h.out v hv hw
structure LabX where
 i:Nat
 l:List Int
 ch:Bool
theorem aM {l:List Int} {i:Nat} {x:Int} (h:l[i]? =some x):l.set i x=l:=by obtain⟨hi,rfl⟩:=AK.1 h;exact List.set_getElem_self hi
def n0 (N:Nat):List Int:=(BE N).map fun (v:Nat)=>(v:Int)
theorem Pa (N:Nat):(n0 N).length=N:=by simp[n0]
theorem Si {N v:Nat} (h:v<N):(n0 N)[v]? =some (v:Int):=by simp[n0,h]
def nf (N i:Nat):List Int:=(n0 N).take i++BT (N-i) 0
theorem jM (N i:Nat) (h:i≤N):(nf N i).length=N:=by simp[nf,Pa];omega
theorem jN (N i:Nat) (h:i<N):(nf N i).set i (i:Int)=nf N (i+1):=by
 unfold nf;have hl:((n0 N).take i).length=i:=by simp[Pa];omega
 rw[EA _ _ oM,hl,EL,show N-i=(N-(i+1))+1 by omega,List.replicate_succ,List.set_cons_zero,BP,Si h];simp
theorem jO (N:Nat):nf N N=n0 N:=by simp[nf,Pa,A6]
theorem aN:∀N,Bn N [Value.int .i64 0]=Bk (nf N 0)
 |0=>rfl
 |N+1=>by have:=aN N;unfold nf Bk at this⊢;simp only[List.take_zero,AB,Nat.sub_zero] at this⊢;rw[List.replicate_succ,AZ,←this];rfl
theorem n0in (g:Nat→Ed) (S:Nat→Prop) (N:Nat) (w:Int) (hw:¬(0≤w∧w<N)):Lz g S N w (n0 N):=
 ⟨Pa N,fun v hv aa=>⟨v,Si hv,.refl _,AI _,aa⟩,fun v hv h=>absurd ⟨oM,oM⟩ hw⟩
theorem n0inW (g:Nat→Ed) (S:Nat→Prop) (N w:Nat) (hw:w<N):Lz g S N w ((n0 N).set w (-1)):=
 ⟨by rw[DS];exact Pa N,fun v hv aa=>⟨v,by rw[CQ oM];exact Si hv,.refl _,AI _,aa⟩,
  fun v hv h=>by
   obtain rfl:v=w:=by omega
   rw[DI (by rw[Pa];exact hv)]⟩
theorem jP (N:Nat) (hN:N≤1000000) (p:Option Addr) (m cap:Nat) (es:List IE) (c:Aa) (hv:Rw ecl 2 p m es c) (hm:m≤1000000) (hf:∀e∈es,inE N e) (po:Option Addr) (ko ae:Nat) (ob:List Bool) (co:Aa) (ay:Rw bcl 1 po ko ob co) (bh:ko≤1000000) (w:Int):Ct AC 98 [gv N p m cap,.slice po ko ae,Z9 Z8 w] [c,co] fun v H'=>∃bl l,v= .slice (some ⟨bl,0,none⟩) N N∧H'=[c,co,[(bl,row (Bk l) 3)]]∧En (gE es) (Fa es ob w) N w l:=by
 have hl:=hv.1;have bi:=ay.1;have bk:∀x:Nat,x≤1000000→(x:Int)≤9223372036854775807:=fun x h=>by omega
 unfold gv;refine cG func98 fun _=>?_;repeat(refine sA ?_;intros)
 rename_i b3 bl;rw[aN];refine G.loop (X:=Nat) (fun i=>i≤N) (fun i=>[(8,Z9 Z8 i),(7,.slice (some ⟨bl,0,none⟩) N N),(3,pv b3),(1,.slice po ko ae),(2,Z9 Z8 w)])
  (fun i=>[[(bl,row (Bk (nf N i)) 3)],[(b3,row [Z9 Z8 N,.slice p m cap] 24)],c,co]) (fun i=>N-i) 0 (AU _) (body:=?_)
 intro i hi;by_cases ab:i<N
 ·have ac:(Bk (nf N i)).set i (Z9 Z8 i)=Bk (nf N (i+1)):=by rw[Mx,jN N i ab]
  have az:i<(Bk (nf N i)).length:=by simp only[Bk,AR,jM N i hi];exact ab
  repeat(refine sA ?_;intros)
  refine Dn.round (i+1) oM oM
 obtain rfl:i=N:=by omega
 rw[jO];clear hi ab;apply G.seq;repeat(first|(refine stn ?_;intros)|refine G.draw [] (h:=?_))
 apply G.seq;repeat(first|(refine stn ?_;intros)|refine G.draw [] (h:=?_))
 refine G.cut (D':=[]) (X:=List Int) (fun l=>Lz (gE es) (Fa es ob w) i w l) (fun _=>[(7,.slice (some ⟨bl,0,none⟩) i i),(3,pv b3),(1,.slice po ko ae),(2,Z9 Z8 w)]) (fun l=>[[(bl,row (Bk l) 3)],[(b3,row [Z9 Z8 i,.slice p m cap] 24)],c,co]) ?_ ?_
 ·by_cases hw:0≤w∧w<i
  ·obtain⟨w',rfl⟩:∃w':Nat,w=(w':Int):=⟨w.toNat,oM⟩
   have ac:(Bk (n0 i)).set w' (Z9 Z8 (-1))=Bk ((n0 i).set w' (-1)):=Mx _ _ _;have az:w'<(Bk (n0 i)).length:=by simp only[Bk,AR,Pa];omega
   repeat(refine sA ?_;intros)
   exact Dn.meet ((n0 i).set w' (-1)) (n0inW _ _ i w' oM)
  ·have aj:=n0in (gE es) (Fa es ob w) i w hw;by_cases bp:0≤w
   ·repeat(refine sA ?_;intros)
    exact Dn.meet (n0 i) aj
   ·repeat(refine sA ?_;intros)
    exact Dn.meet (n0 i) aj
 intro l0 a0;repeat(refine sA ?_;intros)
 refine G.loop (X:=List Int×Bool) (fun x=>Lz (gE es) (Fa es ob w) i w x.1∧(x.2=false→∀j,Fa es ob w j→x.1[(gE es j).1]? =x.1[(gE es j).2]?))
  (fun x=>[(9,.bool x.2),(7,.slice (some ⟨bl,0,none⟩) i i),(3,pv b3),(1,.slice po ko ae),(2,Z9 Z8 w)]) (fun x=>[[(bl,row (Bk x.1) 3)],[(b3,row [Z9 Z8 i,.slice p m cap] 24)],c,co]) (fun x=>2*Le x.1+(if x.2 then 1 else 0)) (l0,true) ⟨a0,fun h=>by cases h⟩ (body:=?_)
 rintro⟨l,ch⟩ ⟨aj,a1⟩;dsimp only at aj a1⊢;cases ch with
 |false=>
  repeat(refine sA ?_;intros)
  (refine dP [c,co,[(bl,row (Bk l) 3)]] ?_;exact⟨bl,l,rfl,rfl,aj.done (a1 rfl)⟩)
 |true=>
 repeat(refine sA ?_;intros)
 refine G.loop (X:=LabX) (fun x=>x.i≤m∧Lz (gE es) (Fa es ob w) i w x.l∧Le x.l≤Le l∧(x.ch=true→Le x.l<Le l)∧(x.ch=false→∀j,j<x.i→Fa es ob w j→x.l[(gE es j).1]? =x.l[(gE es j).2]?))
  (fun x=>[(10,Z9 Z8 x.i),(9,.bool x.ch),(7,.slice (some ⟨bl,0,none⟩) i i),(3,pv b3),(1,.slice po ko ae),(2,Z9 Z8 w)]) (fun x=>[[(bl,row (Bk x.l) 3)],[(b3,row [Z9 Z8 i,.slice p m cap] 24)],c,co]) (fun x=>m-x.i) ⟨0,l,false⟩ ⟨AU _,aj,AI _,fun h=>(by cases h),fun _ j h=>absurd h (EE j)⟩ (body:=?_)
 rintro⟨k,l2,ch⟩ ⟨hk,aa,aq,ak,al⟩;dsimp only at hk aa aq ak al⊢;by_cases ab:k<m;rotate_left
 ·obtain rfl:k=m:=by omega
  repeat(refine sA ?_;intros)
  refine Dn.round (l2,ch) ⟨aa,fun h j hj=>al h j ?_ hj⟩ ?_
  ·obtain⟨e,h1,_⟩:=hj;rw[←hl];exact(AK.1 h1).1
  ·dsimp only;cases ch with
   |true=>have:=ak rfl;simp only[if_true];omega
   |false=>simp only[CE,if_false,if_true];omega
 obtain⟨b,off,cs,T,fz,rfl,rfl,a2,bf⟩:=hv.pos Nr oM;have ah:es[k]? =some es[k]:=AG oM;have hc:=a2 k _ ah;have a4:=hf _ (AY ah);generalize he:es[k]=e at*;obtain⟨u,v⟩:=e;obtain⟨f1,f2,f3,f4⟩:=a4;dsimp only at f1 f2 f3 f4;obtain⟨u,rfl⟩:∃u':Nat,u=(u':Int):=⟨u.toNat,oM⟩
 obtain⟨v,rfl⟩:∃v':Nat,v=(v':Int):=⟨v.toNat,oM⟩
 have bq:(cs.drop (off+k*2)).take 2=[Z9 Z8 u,Z9 Z8 v]:=hc;have au:gE es k=(u,v):=by unfold gE;rw[ah];simp
 have ai:¬Fa es ob w k→Lz (gE es) (Fa es ob w) i w l2∧Le l2≤Le l∧(ch=true→Le l2<Le l)∧(ch=false→∀j,j<k+1→Fa es ob w j→l2[(gE es j).1]? =l2[(gE es j).2]?):=fun a5=>
  ⟨aa,aq,ak,fun h j hj ha=>by
   by_cases am:j=k
   ·subst am;exact absurd ha a5
   ·exact al h j oM ha⟩
 by_cases g1:(u:Int)=w
 ·obtain⟨q1,q2,q3,q4⟩:=ai fun ⟨e,h1,h2,_⟩=>by rw[ah] at h1;simp only[BG] at h1;subst h1;exact h2 g1
  repeat(refine sA ?_;intros)
  refine Dn.round ⟨k+1,l2,ch⟩ ⟨ab,q1,q2,q3,q4⟩ oD
 by_cases g2:(v:Int)=w
 ·obtain⟨q1,q2,q3,q4⟩:=ai fun ⟨e,h1,_,h2,_⟩=>by rw[ah] at h1;simp only[BG] at h1;subst h1;exact h2 g2
  repeat(refine sA ?_;intros)
  refine Dn.round ⟨k+1,l2,ch⟩ ⟨ab,q1,q2,q3,q4⟩ oD
 by_cases g3:k<ko
 ·obtain⟨bu,bg,bv,To,bz,rfl,rfl,a6,av⟩:=ay.pos vT oM;have aw:ob[k]? =some ob[k]:=AG oM;have a7:=av k 0 _ _ aw rfl;rw[Nat.mul_one,B7] at a7;generalize b1:ob[k]=o at*;cases o with
  |true=>
   obtain⟨q1,q2,q3,q4⟩:=ai fun ⟨e,h1,_,_,h2⟩=>h2 aw;repeat(refine sA ?_;intros)
   refine Dn.round ⟨k+1,l2,ch⟩ ⟨ab,q1,q2,q3,q4⟩ oD
  |false=>
  have an:Fa es ob w k:=⟨_,ah,g1,g2,by rw[aw];decide⟩
  obtain⟨x,x1,x2,x3,x4⟩:=aa.at_ u oM g1;obtain⟨y,y1,y2,y3,y4⟩:=aa.at_ v oM g2;have a8:=Mw x1;have a9:=Mw y1;have ag:Cn (gE es) (Fa es ob w) u v:=by have:=Cn.edge (g:=gE es) an;rw[au] at this;exact this
  have bc:u<(Bk l2).length:=by simp only[Bk,AR,aa.len];omega
  have be:v<(Bk l2).length:=by simp only[Bk,AR,aa.len];omega
  by_cases ax:x=y
  ·subst ax;have ac:(Bk l2).set u (Z9 Z8 x)=Bk l2:=by rw[Mx];congr 1;exact aM x1
   repeat(refine sA ?_;intros)
   refine Dn.round ⟨k+1,l2,ch⟩ ⟨ab,aa,aq,ak,fun h j hj ha=>?_⟩ oD;by_cases am:j=k
   ·subst am;rw[au];exact x1.trans y1.symm
   ·exact al h j (by dsimp only at hj;omega) ha
  ·by_cases a3:x<y
   ·have ac:(Bk l2).set v (Z9 Z8 x)=Bk (l2.set v (x:Int)):=Mx _ _ _;have ao:=Wo (y:=(x:Int)) y1 oM;have ad:=aa.put x1 y1 ag.symm oM g1 g2;repeat(refine sA ?_;intros)
    refine Dn.round ⟨k+1,l2.set v (x:Int),true⟩ ⟨ab,ad,oD,fun _=>by dsimp only;omega,fun h=>(by cases h)⟩ oD
   ·have ac:(Bk l2).set u (Z9 Z8 y)=Bk (l2.set u (y:Int)):=Mx _ _ _;have ao:=Wo (y:=(y:Int)) x1 oM;have ad:=aa.put y1 x1 ag oM g2 g1;repeat(refine sA ?_;intros)
    refine Dn.round ⟨k+1,l2.set u (y:Int),true⟩ ⟨ab,ad,oD,fun _=>by dsimp only;omega,fun h=>(by cases h)⟩ oD
 ·have an:Fa es ob w k:=⟨_,ah,g1,g2,by rw[BY oM];decide⟩
  obtain⟨x,x1,x2,x3,x4⟩:=aa.at_ u oM g1;obtain⟨y,y1,y2,y3,y4⟩:=aa.at_ v oM g2;have a8:=Mw x1;have a9:=Mw y1;have ag:Cn (gE es) (Fa es ob w) u v:=by have:=Cn.edge (g:=gE es) an;rw[au] at this;exact this
  have bc:u<(Bk l2).length:=by simp only[Bk,AR,aa.len];omega
  have be:v<(Bk l2).length:=by simp only[Bk,AR,aa.len];omega
  by_cases ax:x=y
  ·subst ax;have ac:(Bk l2).set u (Z9 Z8 x)=Bk l2:=by rw[Mx];congr 1;exact aM x1
   repeat(refine sA ?_;intros)
   refine Dn.round ⟨k+1,l2,ch⟩ ⟨ab,aa,aq,ak,fun h j hj ha=>?_⟩ oD;by_cases am:j=k
   ·subst am;rw[au];exact x1.trans y1.symm
   ·exact al h j (by dsimp only at hj;omega) ha
  ·by_cases a3:x<y
   ·have ac:(Bk l2).set v (Z9 Z8 x)=Bk (l2.set v (x:Int)):=Mx _ _ _;have ao:=Wo (y:=(x:Int)) y1 oM;have ad:=aa.put x1 y1 ag.symm oM g1 g2;repeat(refine sA ?_;intros)
    refine Dn.round ⟨k+1,l2.set v (x:Int),true⟩ ⟨ab,ad,oD,fun _=>by dsimp only;omega,fun h=>(by cases h)⟩ oD
   ·have ac:(Bk l2).set u (Z9 Z8 y)=Bk (l2.set u (y:Int)):=Mx _ _ _;have ao:=Wo (y:=(y:Int)) x1 oM;have ad:=aa.put y1 x1 ag oM g2 g1;repeat(refine sA ?_;intros)
    refine Dn.round ⟨k+1,l2.set u (y:Int),true⟩ ⟨ab,ad,oD,fun _=>by dsimp only;omega,fun h=>(by cases h)⟩ oD
def Fq (n:Int) (t:T5):Prop:=0≤t.c0∧0≤t.c1∧0≤t.c2∧t.c1<n∧t.c2<n
instance (n:Int) (t:T5):Decidable (Fq n t):=by unfold Fq;infer_instance
def Ic (n:Int) (ts:List T5):Prop:=(∀t∈ts,Fq n t)∧ts.Pairwise fun a b=>a.c0≠b.c0
instance (n:Int) (ts:List T5):Decidable (Ic n ts):=by unfold Ic;infer_instance
theorem vU (n:Nat) (hn:n≤1073741824) (p:Option Addr) (m cap:Nat) (ts:List T5) (c:Aa) (hv:RV p m ts c) (hm:m≤1000000):CtQ AC 99 [Z9 Z8 n,.slice p m cap] [c] (.bool (dec (Ic n ts))):=by
 have hl:=hv.1;have ah:∀i t,ts[i]? =some t→¬Fq n t→dec (Ic n ts)=false:=fun i t hi ht=>Jq fun h=>ht (h.1 t (AY hi));refine cG func99 fun _=>?_;repeat(refine sv ?_;intros)
 refine G.loop (X:=Nat) (fun i=>i≤m∧(∀j t,j<i→ts[j]? =some t→Fq n t)∧∀j k t u,j<k→k<i→ts[j]? =some t→ts[k]? =some u→t.c0≠u.c0)
  (fun i=>[(5,Z9 Z8 i),(1,.slice p m cap),(0,Z9 Z8 n)]) (fun _=>[c]) (fun i=>m-i) 0 ⟨AU _,fun j t h=>absurd h (EE j),fun j k t u _ h=>absurd h (EE k)⟩ (body:=?_)
 rintro i ⟨hi,ai,aj⟩;by_cases an:i<m
 ·obtain⟨b,off,cs,T,fz,rfl,rfl,_,ab⟩:=(RV.rw hv).pos Es oM;have hit:ts[i]? =some ts[i]:=AG oM;have q0:=ab i 0 _ _ hit rfl;have q1:=ab i 1 _ _ hit rfl;have q2:=ab i 2 _ _ hit rfl;rw[B7] at q0;have ac:=ah i _ hit;generalize ht:ts[i]=t at*;by_cases g0:t.c0<0
  ·rw[ac (by unfold Fq;omega)];repeat(refine sv ?_;intros)
   (refine dP [[(b,An cs T fz)]] ?_;exact⟨rfl,rfl⟩)
  by_cases g1:t.c1<0
  ·rw[ac (by unfold Fq;omega)];repeat(refine sv ?_;intros)
   (refine dP [[(b,An cs T fz)]] ?_;exact⟨rfl,rfl⟩)
  by_cases g2:t.c2<0
  ·rw[ac (by unfold Fq;omega)];repeat(refine sv ?_;intros)
   (refine dP [[(b,An cs T fz)]] ?_;exact⟨rfl,rfl⟩)
  by_cases g3:(n:Int)≤t.c1
  ·rw[ac (by unfold Fq;omega)];repeat(refine sv ?_;intros)
   (refine dP [[(b,An cs T fz)]] ?_;exact⟨rfl,rfl⟩)
  by_cases g4:(n:Int)≤t.c2
  ·rw[ac (by unfold Fq;omega)];repeat(refine sv ?_;intros)
   (refine dP [[(b,An cs T fz)]] ?_;exact⟨rfl,rfl⟩)
  repeat(refine sv ?_;intros)
  refine G.loop (X:=Nat) (fun k=>k≤i∧∀j u,j<k→ts[j]? =some u→u.c0≠t.c0)
   (fun k=>[(6,Z9 Z8 k),(5,Z9 Z8 i),(1,.slice (some ⟨b,off,none⟩) m cap),(0,Z9 Z8 n)]) (fun _=>[[(b,An cs T fz)]]) (fun k=>i-k) 0 ⟨AU _,fun j u h=>absurd h (EE j)⟩ (body:=?_)
  rintro k ⟨hk,ak⟩;by_cases ag:k<i
  ·have al:ts[k]? =some ts[k]:=AG oM;have r0:=ab k 0 _ _ al rfl;rw[B7] at r0;generalize hu:ts[k]=u at*;by_cases he:u.c0=t.c0
   ·have hb:dec (Ic n ts)=false:=Jq fun h=>by have:=A9.1 h.2 k i oM oM ag;rw[hu,ht] at this;exact this he
    rw[hb];repeat(refine sv ?_;intros)
    (refine dP [[(b,An cs T fz)]] ?_;exact⟨rfl,rfl⟩)
   ·repeat(refine sv ?_;intros)
    refine Dn.round (k+1) ⟨ag,fun j u' hj aa=>?_⟩ oM;by_cases ad:j=k
    ·subst ad;rw[al] at aa;simp only[BG] at aa;subst aa;exact he
    ·exact ak j u' oM aa
  ·obtain rfl:k=i:=by omega
   repeat(refine sv ?_;intros)
   refine Dn.round (k+1) ⟨an,fun j u hj aa=>?_,fun j l u v am aq aa ae=>?_⟩ oM
   ·by_cases ad:j=k
    ·subst ad;rw[hit] at aa;simp only[BG] at aa;subst aa;exact⟨oM,oM,oM,oM,oM⟩
    ·exact ai j u oM aa
   ·by_cases ao:l=k
    ·subst ao;rw[hit] at ae;simp only[BG] at ae;subst ae;exact ak j u am aa
    ·exact aj j l u v am oM aa ae
 ·obtain rfl:i=m:=by omega
  have hb:dec (Ic n ts)=true:=Dt ⟨fun t ht=>by
   obtain⟨j,hj,rfl⟩:=CU ht;exact ai j _ oM (AG hj),A9.2 fun j k hj hk ad=>aj j k _ _ ad oM (AG hj) (AG hk)⟩
  rw[hb];repeat(refine sv ?_;intros)
  (refine dP [c] ?_;exact⟨rfl,rfl⟩)
theorem Ty {E sz:Nat} {p:Option Addr} {m cap:Nat} {xs:List Value} {c:Aa} (h:Vec E sz p m cap xs c) (hm:0<m):∃b rest,p=some ⟨b,0,none⟩∧c=[(b,row (xs++rest) E)]∧cap*sz≤xs.length+rest.length∧m≤cap∧cap≤maxLen:=by
 rcases h.2 with⟨_,e,_⟩|hh
 ·omega
 ·exact hh
theorem t_cut (A B:List T5) (t:T5) (r:List Value) {k:Nat} (hk:A.length=k):((flat (A++t::B)++r).drop (k*5)).take 5=[Z9 Z8 t.c0,Z9 Z8 t.c1,Z9 Z8 t.c2,Z9 Z8 t.c3,Z9 Z8 t.c4]:=by rw[Mv];exact aK (k:=5) Es (l:=A++t::B) (i:=k) (a:=t) (by subst hk;simp) r
theorem t_set (A B:List T5) (t u:T5) (r:List Value) {k:Nat} (hk:A.length=k):Bq (flat (A++t::B)++r) (k*5) [Z9 Z8 u.c0,Z9 Z8 u.c1,Z9 Z8 u.c2,Z9 Z8 u.c3,Z9 Z8 u.c4]=flat (A++u::B)++r:=by
 rw[Mv,Mv];have h:=aL (k:=5) Es (A++t::B) k u r (by subst hk;simp);have h2:(A++t::B).set k u=A++u::B:=by subst hk;simp
 rw[h2] at h;exact h
theorem Sj (a:List T5):(flat a).length=a.length*5:=by rw[Mv,Km Es]
def Cw (t:T5):IE:=(t.c1,t.c2)
def Ft (l:List T5):List Value:=(l.map Cw).flatMap ecl
def Fz (l:List T5):List Value:=Bk (l.map (·.c0))
theorem vV (a b:List T5):Ft (a++b)=Ft a++Ft b:=by simp[Ft]
theorem vW (a b:List T5):Fz (a++b)=Fz a++Fz b:=by simp[Fz,Bk]
theorem Tz (a:List T5):(Ft a).length=a.length*2:=by unfold Ft;rw[Km Nr,AR]
theorem Ua (a:List T5):(Fz a).length=a.length:=by simp[Fz,Bk]
theorem aO (A B:List T5) (t:T5) (r:List Value) {k:Nat} (hk:A.length=k):((Ft (A++t::B)++r).drop (k*2)).take 2=[Z9 Z8 t.c1,Z9 Z8 t.c2]:=by have h:=aK (k:=2) Nr (l:=(A++t::B).map Cw) (i:=k) (a:=Cw t) (by subst hk;simp) r;exact h
theorem e_set (A B:List T5) (t u:T5) (r:List Value) {k:Nat} (hk:A.length=k):Bq (Ft (A++t::B)++r) (k*2) [Z9 Z8 u.c1,Z9 Z8 u.c2]=Ft (A++u::B)++r:=by
 have h:=aL (k:=2) Nr ((A++t::B).map Cw) k (Cw u) r (by subst hk;simp);rw[←List.map_set] at h;have h2:(A++t::B).set k u=A++u::B:=by subst hk;simp
 rw[h2] at h;exact h
theorem aP (A B:List T5) (t:T5) (r:List Value) {k:Nat} (hk:A.length=k):(Fz (A++t::B)++r)[k]? =some (Z9 Z8 t.c0):=by subst hk;simp[Fz,Bk,List.getElem?_append]
theorem n_set (A B:List T5) (t u:T5) (r:List Value) {k:Nat} (hk:A.length=k):(Fz (A++t::B)++r).set k (Z9 Z8 u.c0)=Fz (A++u::B)++r:=by subst hk;simp[Fz,Bk,List.set_append]
def Sn (l:List T5):Prop:=l.Pairwise fun a b=>a.c0≤b.c0
structure GrX where
 i:Nat
 sl:List T5
 pe:Option Addr
 ce:Nat
 he:Aa
 pn:Option Addr
 cn:Nat
 hn:Aa
structure GrY where
 kz:Int
 A:List T5
 B:List T5
theorem vX (n:Nat) (p:Option Addr) (m cap:Nat) (ts:List T5) (c:Aa) (hv:RV p m ts c) (hm:m≤1000000):Ct AC 100 [Z9 Z8 n,.slice p m cap] [c] fun v H'=>∃sl pe ce he pn cn hn,v= .tuple #[gv n pe m ce,.slice pn m cn]∧H'=[c,he,hn]∧Vec 53 2 pe m ce (Ft sl) he∧Vec 2 1 pn m cn (Fz sl) hn∧sl.Perm ts∧Sn sl:=by
 have hl:=hv.1;unfold gv;refine cG func100 fun _=>?_;repeat(first|(refine sv ?_;intros)|refine gD ?_)
 rename_i b4 b6;refine G.loop (X:=GrX) (fun x=>x.i≤m∧x.sl.Perm (ts.take x.i)∧Sn x.sl∧Vec 53 2 x.pe x.i x.ce (Ft x.sl) x.he∧Vec 2 1 x.pn x.i x.cn (Fz x.sl) x.hn)
  (fun x=>[(8,Z9 Z8 x.i),(7,.slice x.pn x.i x.cn),(6,pv b6),(4,pv b4),(1,.slice p m cap)])
  (fun x=>[[(b6,row [Z9 Z8 n,.slice x.pe x.i x.ce] 24)],[(b4,row [Z9 Z8 0,.slice none 0 0] 24)],c,x.he,x.hn]) (fun x=>m-x.i) ⟨0,[],none,0,[],none,0,[]⟩
  ⟨AU _,by simp,DH,Vec.nil _ _,Vec.nil _ _⟩ oA7 oA3 ?_
 rintro⟨i,sl,pe,ce,he,pn,cn,hn⟩ ⟨hi,hp,hs,aj,ak⟩;dsimp only at hi hp hs aj ak⊢;by_cases an:i<m
 ·obtain⟨b,off,cs,T,fz,rfl,rfl,_,ac⟩:=(RV.rw hv).pos Es oM;have hit:ts[i]? =some ts[i]:=AG oM;have q0:=ac i 0 _ _ hit rfl;have q1:=ac i 1 _ _ hit rfl;have q2:=ac i 2 _ _ hit rfl;rw[B7] at q0;generalize ht:ts[i]=t at*;have a7:i+1≤maxLen:=by simp only[maxLen];omega
  have al:sl.length=i:=by have:=hp.length_eq;rw[List.length_take] at this;omega
  repeat(first|(refine sv ?_;intros)|refine gD ?_)
  rename_i a8 aw ad ax ag a9 ay ae az ah;have ao:Vec 53 2 aw (i+1) ad (Ft (sl++[t])) ax:=by rw[vV];exact ag
  have aq:Vec 2 1 ay (i+1) ae (Fz (sl++[t])) az:=by rw[vW];exact ah
  obtain⟨eb,re,rfl,rfl,a0,a1,a2⟩:=Ty ao (Nat.succ_pos _);obtain⟨nb,rn,rfl,rfl,a3,a4,au⟩:=Ty aq (Nat.succ_pos _);clear aj ak ag ah;rw[Tz,AH,CY,al] at a0;rw[Ua,AH,CY,al] at a3;refine G.loop (X:=GrY) (fun x=>x.A++x.B=sl∧x.kz=(x.A.length:Int)∧∀u∈x.B,t.c0<u.c0)
   (fun x=>[(9,Z9 Z8 x.kz),(8,Z9 Z8 i),(7,.slice (some ⟨nb,0,none⟩) (i+1) ae),(6,pv b6),(4,pv b4),(1,.slice (some ⟨b,off,none⟩) m cap)])
   (fun x=>[[(b6,row [Z9 Z8 n,.slice (some ⟨eb,0,none⟩) (i+1) ad] 24)],[(b4,row [Z9 Z8 0,.slice none 0 0] 24)],[(b,An cs T fz)],[(eb,row (Ft (x.A++t::x.B)++re) 53)],[(nb,row (Fz (x.A++t::x.B)++rn) 2)]]) (fun x=>x.A.length) ⟨(i:Int),sl,[]⟩ ⟨by simp,oD,by simp⟩ (body:=?_)
  rintro⟨kz,A,B⟩ ⟨ab,am,hB⟩;dsimp only at ab am hB⊢;have av:A.length+B.length=i:=by rw[←al,←ab,AH]
  have ai:(∀u∈A,u.c0≤t.c0)→(A++t::B).Perm (ts.take (i+1))∧Sn (A++t::B)∧Vec 53 2 (some ⟨eb,0,none⟩) (i+1) ad (Ft (A++t::B)) [(eb,row (Ft (A++t::B)++re) 53)]∧
    Vec 2 1 (some ⟨nb,0,none⟩) (i+1) ae (Fz (A++t::B)) [(nb,row (Fz (A++t::B)++rn) 2)]:=by
   intro hA;refine⟨?_,?_,Vec.mk' rfl (by rw[Tz];simp;omega) (by rw[AH,Tz];simp;omega) a1 a2,Vec.mk' rfl (by rw[Ua];simp;omega) (by rw[AH,Ua];simp;omega) a4 au⟩
   ·rw[BP,hit];refine(B4.trans ?_);rw[ab];exact(hp.cons t).trans (CI (l₁:=[t]))
   ·unfold Sn at hs⊢;rw[←ab,B8] at hs;rw[B8,BF];exact⟨hs.1,⟨fun u hu=>Int.le_of_lt (hB u hu),hs.2.1⟩,fun x hx y hy=>by
     rcases AM.1 hy with rfl|hy
     ·exact hA x hx
     ·exact hs.2.2 x hx y hy⟩
  rcases List.eq_nil_or_concat A with rfl|⟨A',x,rfl⟩
  ·obtain⟨e1,e2,e3,e4⟩:=ai oA19;have bc:kz=0:=by simpa using am
   repeat(first|(refine sv ?_;intros)|refine gD ?_)
   refine Dn.round ⟨i+1,[]++t::B,_,ad,_,_,ae,_⟩ ⟨an,e1,e2,e3,e4⟩ oD
  ·have be:kz=((A'.length+1:Nat):Int):=by simpa using am
   have ek:kz.toNat=A'.length+1:=oM;have bf:(kz-1).toNat=A'.length:=oM;have bg:A'.length+1+B.length=i:=by simpa using av
   have aa:∀u v:T5,(A'++[u])++v::B=A'++u::v::B:=fun u v=>by simp
   rw[List.concat_eq_append] at*;rw[aa];have c1:=aO (A'++[x]) B t re (k:=A'.length+1) oA19;have c2:=aO A' (t::B) x re rfl;have s1:=e_set (A'++[x]) B t x re (k:=A'.length+1) oA19;have s2:=e_set A' (x::B) x t re rfl;have d1:=aP (A'++[x]) B t rn (k:=A'.length+1) oA19;have d2:=aP A' (t::B) x rn rfl;have u1:=n_set (A'++[x]) B t x rn (k:=A'.length+1) oA19;have u2:=n_set A' (x::B) x t rn rfl;simp only[aa] at c1 s1 d1 u1;have l1:(A'.length+1)*2+2≤(Ft (A'++x::t::B)++re).length:=by rw[AH,Tz];simp;omega
   have l2:(A'.length+1)*2+2≤(Ft (A'++x::x::B)++re).length:=by rw[AH,Tz];simp;omega
   have l3:A'.length+1<(Fz (A'++x::t::B)++rn).length:=by rw[AH,Ua];simp;omega
   have l4:A'.length+1<(Fz (A'++x::x::B)++rn).length:=by rw[AH,Ua];simp;omega
   by_cases a5:t.c0<x.c0
   ·have a6:∀r:List Value,Ft (A'++t::x::B)++re=r→True:=fun _ _=>trivial;generalize bh:Ft (A'++x::t::B)++re=r0 at*;generalize bi:Ft (A'++x::x::B)++re=r1 at*;generalize bk:Fz (A'++x::t::B)++rn=m0 at*;generalize bp:Fz (A'++x::x::B)++rn=m1 at*;repeat(first|(refine sv ?_;intros)|refine gD ?_)
    refine Dn.round ⟨kz-1,A',x::B⟩ ⟨by rw[←ab];simp,oD,fun u hu=>?_⟩ oA19;rcases AM.1 hu with rfl|hu
    ·exact a5
    ·exact hB u hu
   ·obtain⟨e1,e2,e3,e4⟩:=ai (fun u hu=>by
     unfold Sn at hs;rw[←ab,B8,B8] at hs;rcases AS.1 hu with hu|hu
     ·have:=hs.1.2.2 u hu x oA19;omega
     ·simp only[AW] at hu;subst hu;omega)
    simp only[aa] at e1 e2 e3 e4;repeat(first|(refine sv ?_;intros)|refine gD ?_)
    refine Dn.round ⟨i+1,A'++x::t::B,_,ad,_,_,ae,_⟩ ⟨an,e1,e2,e3,e4⟩ oD
 ·obtain rfl:i=m:=by omega
  rw[A6 oM] at hp;repeat(first|(refine sv ?_;intros)|refine gD ?_)
  (refine dP [c,he,hn] ?_;exact⟨sl,pe,ce,he,pn,cn,hn,rfl,rfl,aj,ak,hp,hs⟩)
def Fb (l:List Bool):List Value:=l.map Value.bool
theorem jQ (l:List Bool) (i:Nat) (x:Bool):(Fb l).set i (.bool x)=Fb (l.set i x):=by unfold Fb;rw[List.map_set]
theorem aQ:∀N,Bn N [Value.bool false]=Fb (BT N false)
 |0=>rfl
 |N+1=>by have:=aQ N;unfold Fb at this⊢;rw[List.replicate_succ,AZ,←this];rfl
structure Wp (g:Nat→Ed) (i N:Nat) (l:List Int):Prop where
 len:l.length=N
 nat:∀v,v<N→∃x:Nat,l[v]? =some (x:Int)
 eq:∀a b,a<N→b<N→(l[a]? =l[b]?↔Cn g (fun j=>j<i) a b)
def Fc (la lb:Int) (l:List Int):List Int:=l.map fun y=>if y=lb then la else y
theorem Wp.step {g:Nat→Ed} {i N:Nat} {l:List Int} (h:Wp g i N l) {la lb:Int} (hu:(g i).1<N) (hv:(g i).2<N) (ha:l[(g i).1]? =some la) (hb:l[(g i).2]? =some lb):Wp g (i+1) N (Fc la lb l):=by
 refine⟨by unfold Fc;rw[AR];exact h.len,fun v ad=>?_,fun a b aa ab=>?_⟩
 ·obtain⟨x,hx⟩:=h.nat v ad;obtain⟨y,hy⟩:=h.nat _ hu;rw[ha] at hy;simp only[BG] at hy;unfold Fc;rw[BM,hx];by_cases ac:(x:Int)=lb
  ·exact⟨y,by simp[ac,hy]⟩
  ·exact⟨x,by simp[ac]⟩
 ·have hc:Cn g (fun j=>j<i+1) a b↔Cn g (fun j=>j<i) a b∨(Cn g (fun j=>j<i) a (g i).1∧Cn g (fun j=>j<i) (g i).2 b)∨(Cn g (fun j=>j<i) a (g i).2∧Cn g (fun j=>j<i) (g i).1 b):=by
   constructor
   ·intro hc;exact Cn.add (hc.mono fun j hj=>by omega)
   ·have hm:∀{x y},Cn g (fun j=>j<i) x y→Cn g (fun j=>j<i+1) x y:=fun hc=>hc.mono fun j hj=>Nat.lt_succ_of_lt hj;have he:Cn g (fun j=>j<i+1) (g i).1 (g i).2:=Cn.edge (Nat.lt_succ_self i);rintro(h1|⟨h1,h2⟩|⟨h1,h2⟩)
    ·exact hm h1
    ·exact((hm h1).trans he).trans (hm h2)
    ·exact((hm h1).trans he.symm).trans (hm h2)
  rw[hc,←h.eq a b aa ab,←h.eq a _ aa hu,←h.eq _ b hv ab,←h.eq a _ aa hv,←h.eq _ b hu ab,ha,hb];obtain⟨x,hx⟩:=h.nat a aa;obtain⟨y,hy⟩:=h.nat b ab;unfold Fc;rw[BM,BM,hx,hy];simp only[DL,BG];by_cases h1:(x:Int)=lb<;>by_cases h2:(y:Int)=lb<;>simp only[h1,h2,if_true,if_false]<;>constructor<;>intro h3<;>first|omega|(simp[h1,h2] at h3⊢;omega)|(simp_all)
theorem vY (la lb:Int) (l:List Int) (k:Nat) {y:Int} (h:l[k]? =some y):((Fc la lb l).take k++l.drop k).set k (if y=lb then la else y)=(Fc la lb l).take (k+1)++l.drop (k+1):=by
 obtain⟨hk,rfl⟩:=AK.1 h;have hl:((Fc la lb l).take k).length=k:=by unfold Fc;simp;omega
 rw[EA _ _ oM,hl,EL,BO hk,List.set_cons_zero,BP];unfold Fc;rw[BM,AG hk];simp
def Ub (es:List IE) (fl:List Bool):Prop:=fl.length=es.length∧∀i b,fl[i]? =some b→(b=true↔Kr (gE es) (fun j=>j<es.length) i)
structure FoX where
 i:Nat
 l:List Int
 f:List Bool
theorem vZ (N:Nat) (hN:N≤1000000) (p:Option Addr) (m cap:Nat) (es:List IE) (c:Aa) (hv:Rw ecl 2 p m es c) (hm:m≤1000000) (hf:∀e∈es,inE N e):Ct AC 101 [gv N p m cap] [c] fun v H'=>∃bi fl,v= .slice (some ⟨bi,0,none⟩) m m∧H'=[c,[(bi,row (Fb fl) 4)]]∧Ub es fl:=by
 have hl:=hv.1;unfold gv;refine cG func101 fun _=>?_;repeat(refine sv ?_;intros)
 rename_i b1 bi bl;rw[aN,aQ];refine G.loop (X:=Nat) (fun i=>i≤N) (fun i=>[(5,Z9 Z8 i),(4,.slice (some ⟨bl,0,none⟩) N N),(3,.slice (some ⟨bi,0,none⟩) m m),(1,pv b1)])
  (fun i=>[[(bl,row (Bk (nf N i)) 3)],[(bi,row (Fb (BT m false)) 4)],[(b1,row [Z9 Z8 N,.slice p m cap] 24)],c]) (fun i=>N-i) 0 (AU _) (body:=?_)
 intro i hi;by_cases ab:i<N
 ·have an:(Bk (nf N i)).set i (Z9 Z8 i)=Bk (nf N (i+1)):=by rw[Mx,jN N i ab]
  have ao:i<(Bk (nf N i)).length:=by simp only[Bk,AR,jM N i hi];exact ab
  repeat(refine sv ?_;intros)
  refine Dn.round (i+1) oM oM
 obtain rfl:i=N:=by omega
 rw[jO];clear hi ab;repeat(refine sv ?_;intros)
 refine G.loop (X:=FoX) (fun x=>x.i≤m∧Wp (gE es) x.i i x.l∧x.f.length=m∧∀j b,j<x.i→x.f[j]? =some b→(b=true↔Kr (gE es) (fun j=>j<es.length) j))
  (fun x=>[(6,Z9 Z8 x.i),(4,.slice (some ⟨bl,0,none⟩) i i),(3,.slice (some ⟨bi,0,none⟩) m m),(1,pv b1)]) (fun x=>[[(bl,row (Bk (x.l)) 3)],[(bi,row (Fb (x.f)) 4)],[(b1,row [Z9 Z8 i,.slice p m cap] 24)],c]) (fun x=>m-x.i) ⟨0,n0 i,BT m false⟩
  ⟨AU _,⟨Pa i,fun v hv=>⟨v,Si hv⟩,fun a b ha hb=>by
   rw[Si ha,Si hb];constructor
   ·intro h;obtain rfl:a=b:=by simp only[BG] at h;omega
    exact .refl _
   ·intro h;have:a=b:=h.stay (X:=fun y=>a=y) rfl (fun j hj=>absurd hj (EE j));rw[this]⟩,by simp,fun j b h=>absurd h (EE j)⟩ (body:=?_)
 rintro⟨k,l,f⟩ ⟨hk,hL,ah,ai⟩;dsimp only at hk hL ah ai⊢;by_cases ab:k<m;rotate_left
 ·obtain rfl:k=m:=by omega
  repeat(refine sv ?_;intros)
  (refine dP [c,[(bi,row (Fb f) 4)]] ?_;exact⟨bi,f,rfl,rfl,oM,fun j b hj=>ai j b (by rw[←ah];exact(AK.1 hj).1) hj⟩)
 obtain⟨b,off,cs,T,fz,rfl,rfl,a1,ag⟩:=hv.pos Nr oM;have ad:es[k]? =some es[k]:=AG oM;have q0:=ag k 0 _ _ ad rfl;have q1:=ag k 1 _ _ ad rfl;rw[B7] at q0;have av:=hf _ (AY ad);generalize he:es[k]=e at*;obtain⟨u,v⟩:=e;obtain⟨f1,f2,f3,f4⟩:=av;dsimp only at f1 f2 f3 f4 q0 q1;obtain⟨u,rfl⟩:∃u':Nat,u=(u':Int):=⟨u.toNat,oM⟩
 obtain⟨v,rfl⟩:∃v':Nat,v=(v':Int):=⟨v.toNat,oM⟩
 have ac:gE es k=(u,v):=by unfold gE;rw[ad];simp
 obtain⟨la,x1⟩:=hL.nat u oM;obtain⟨lb,y1⟩:=hL.nat v oM;have a2:=Mw x1;have a3:=Mw y1;have aj:=hL.step (la:=la) (lb:=lb) (by rw[ac];dsimp only;omega) (by rw[ac];dsimp only;omega) (by rw[ac];exact x1) (by rw[ac];exact y1);have aw:dec ((la:Int)≠(lb:Int))=true↔Kr (gE es) (fun j=>j<es.length) k:=by
  have h1:=hL.eq u v oM oM;rw[x1,y1,BG] at h1;rw[Ur];unfold Kr;rw[ac];have h2:Cn (gE es) (fun j=>j<es.length∧j<k) u v↔Cn (gE es) (fun j=>j<k) u v:=Cn.congr fun j=>⟨fun h=>h.2,fun h=>⟨oM,h⟩⟩
  rw[h2,←h1];exact⟨fun h=>⟨oM,h⟩,fun h=>h.2⟩
 have ax:(Fb f).set k (.bool (dec ((la:Int)≠(lb:Int))))=Fb (f.set k (dec ((la:Int)≠(lb:Int)))):=jQ _ _ _;have ay:k<(Fb f).length:=by simp only[Fb,AR];omega
 repeat(refine sv ?_;intros)
 refine G.loop (X:=Nat) (fun j=>j≤i) (fun j=>[(9,Z9 Z8 j),(8,Z9 Z8 lb),(7,Z9 Z8 la),(6,Z9 Z8 k),(4,.slice (some ⟨bl,0,none⟩) i i),(3,.slice (some ⟨bi,0,none⟩) m m),(1,pv b1)])
  (fun j=>[[(bl,row (Bk ((Fc la lb l).take j++l.drop j)) 3)],[(bi,row (Fb (f.set k (dec ((la:Int)≠(lb:Int))))) 4)],[(b1,row [Z9 Z8 i,.slice (some ⟨b,off,none⟩) m cap] 24)],[(b,An cs T fz)]]) (fun j=>i-j) 0 (AU _) (body:=?_)
 intro j hj;by_cases aq:j<i
 ·obtain⟨y,hy⟩:=hL.nat j aq;have az:(Bk ((Fc la lb l).take j++l.drop j))[j]? =some (Z9 Z8 y):=by
   refine Mw ?_;have ak:((Fc la lb l).take j).length=j:=by unfold Fc;simp[hL.len];omega
   rw[BL oM,ak,EL,BS];exact hy
  have ae:=vY la lb l j hy;by_cases au:(y:Int)=lb
  ·have an:(Bk ((Fc la lb l).take j++l.drop j)).set j (Z9 Z8 la)=Bk ((Fc la lb l).take (j+1)++l.drop (j+1)):=by rw[Mx];rw[if_pos au] at ae;rw[ae]
   have ao:j<(Bk ((Fc la lb l).take j++l.drop j)).length:=(AK.1 az).1;repeat(refine sv ?_;intros)
   refine Dn.round (j+1) oM oM
  ·have al:(Fc la lb l).take j++l.drop j=(Fc la lb l).take (j+1)++l.drop (j+1):=by
    rw[if_neg au] at ae;rw[←ae];refine(aM ?_).symm;have ak:((Fc la lb l).take j).length=j:=by unfold Fc;simp[hL.len];omega
    rw[BL oM,ak,EL,BS];exact hy
   repeat(refine sv ?_;intros)
   rw[al];refine Dn.round (j+1) oM oM
 ·obtain rfl:j=i:=by omega
  have am:(Fc la lb l).take j++l.drop j=Fc la lb l:=by rw[List.drop_eq_nil_of_le (by rw[hL.len];exact AI _),AQ,A6 (by unfold Fc;rw[AR,hL.len];exact AI _)]
  rw[am];repeat(refine sv ?_;intros)
  refine Dn.round ⟨k+1,Fc la lb l,f.set k (dec ((la:Int)≠(lb:Int)))⟩ ⟨ab,aj,by rw[DS];exact ah,fun q bq hq aa=>?_⟩ oD;dsimp only at hq aa;by_cases a0:q=k
  ·subst a0;rw[DI oM] at aa;simp only[BG] at aa;subst aa;exact aw
  ·rw[CQ oM] at aa;exact ai q bq oM aa
def Ay (l:List Int):List T5:=(BE l.length).map fun (v:Nat)=>⟨(v:Int),l.getD v 0,0,0,0⟩
def Ba (sl:List T5) (fl:List Bool):List T5:=(sl.zip fl).filterMap fun x=>if x.2 then some ⟨x.1.c0,x.1.c1,x.1.c2,0,0⟩ else none
def My (N:Nat) (ts a b:List T5):Prop:=∃sl fl lab,sl.Perm ts∧Sn sl∧En (gE (sl.map Cw)) (fun i=>i<sl.length) N (-1) lab∧Ub (sl.map Cw) fl∧a=Ay lab∧b=Ba sl fl
theorem wA {l:List Int} {v:Nat} {x:Int} (h:l[v]? =some x):(Ay l).take (v+1)=(Ay l).take v++[⟨(v:Int),x,0,0,0⟩]:=by obtain⟨hv,rfl⟩:=AK.1 h;unfold Ay;rw[BP,BM,CO hv];simp[hv]
theorem wB {sl:List T5} {fl:List Bool} {i:Nat} {t:T5} {b:Bool} (h1:sl[i]? =some t) (h2:fl[i]? =some b):Ba (sl.take (i+1)) (fl.take (i+1))=Ba (sl.take i) (fl.take i)++(if b then[⟨t.c0,t.c1,t.c2,0,0⟩] else[]):=by
 obtain⟨ha,rfl⟩:=AK.1 h1;obtain⟨hb,rfl⟩:=AK.1 h2;unfold Ba;rw[BP,BP,AG ha,AG hb,List.zip_append oA16,List.filterMap_append];congr 1;simp only[Option.toList_some,List.zip_cons_cons,List.zip_nil_left,List.filterMap_cons,List.filterMap_nil];cases fl[i]<;>rfl
theorem flat_append (a b:List T5):flat (a++b)=flat a++flat b:=by rw[Mv,Mv,Mv,CJ]
structure CoX where
 i:Nat
 p:Option Addr
 k:Nat
 cap:Nat
 ch:Aa
theorem wC (N:Nat) (hN:N≤1000000) (p:Option Addr) (m cap:Nat) (ts:List T5) (c:Aa) (hv:RV p m ts c) (hm:m≤1000000) (ho:Ic N ts):Ct AC 43 [Z9 Z8 N,.slice p m cap] [c] fun v H'=>∃pa na ka ca pb nb kb cb a b,v= .tuple #[.slice pa na ka,.slice pb nb kb,.bool true]∧H'=[c,ca,cb]∧RV pa na a ca∧RV pb nb b cb∧nb≤m∧My N ts a b:=by
 have hE:=vU N oM p m cap ts c hv hm;rw[Dt ho] at hE;have hG:=vX N p m cap ts c hv hm;refine cG func43 fun _=>?_;repeat(refine sA ?_;intros)
 refine cL hG ?_;rintro _ _ ⟨sl,pe,ce,he,pn,cn,hn,rfl,rfl,ak,aw,hp,hs⟩;try dsimp only[AA,AB]
 have a8:sl.length=m:=hp.length_eq.trans hv.1;have hR:Rw ecl 2 pe m (sl.map Cw) he:=Rw.ofVec Nr ak oM;have ag:∀e∈sl.map Cw,inE N e:=by intro e he;obtain⟨t,ht,rfl⟩:=AN.1 he;obtain⟨_,h1,h2,h3,h4⟩:=ho.1 t (hp.mem_iff.1 ht);exact⟨h1,h3,h2,h4⟩
 have al:=jP N hN pe m ce (sl.map Cw) he hR hm ag none 0 0 [] [] ⟨rfl,.inl ⟨rfl,rfl⟩⟩ oM (-1);have am:=vZ N hN pe m ce (sl.map Cw) he hR hm ag;unfold gv at al am⊢;repeat(refine sA ?_;intros)
 refine cL al ?_;rintro _ _ ⟨bl,lab,rfl,rfl,hL⟩;repeat(refine sA ?_;intros)
 rename_i b7;have ax:=hL.len;have ay:En (gE (sl.map Cw)) (fun i=>i<sl.length) N (-1) lab:=by
  have ae:∀i,Fa (sl.map Cw) [] (-1) i↔i<sl.length:=fun i=>by
   constructor
   ·rintro⟨e,h1,_⟩;have:=(AK.1 h1).1;rwa[AR] at this
   ·intro hi;have h1:(sl.map Cw)[i]? =some (Cw sl[i]):=by simp[hi]
    have h2:=ag _ (AY h1);unfold inE at h2;exact⟨_,h1,oM,oM,by simp⟩
  refine⟨hL.len,fun v hv az=>?_,hL.out⟩;obtain⟨x,a1,a2,a3,a4⟩:=hL.at_ v hv az;exact⟨x,a1,(Cn.congr ae).1 a2,a3,fun u hu=>a4 u ((Cn.congr ae).2 hu)⟩
 have an:∀x:Nat,x≤1000000→x+1≤maxLen:=fun x hx=>by simp only[maxLen];omega
 refine G.loop (X:=CoX) (fun x=>x.i≤N∧Vec 33 5 x.p x.i x.cap (flat ((Ay lab).take x.i)) x.ch)
  (fun x=>[(12,Z9 Z8 x.i),(11,.slice (some ⟨bl,0,none⟩) N N),(10,.slice none 0 0),(9,.slice x.p x.i x.cap),(8,.slice pn m cn),(7,pv b7),(0,Z9 Z8 N)])
  (fun x=>[[(b7,row [Z9 Z8 N,.slice pe m ce] 24)],[(bl,row (Bk lab) 3)],c,he,hn,x.ch]) (fun x=>N-x.i) ⟨0,none,0,0,[]⟩ ⟨AU _,Vec.nil _ _⟩ oA7 oA3 ?_
 rintro⟨i,p1,_,c1,ch⟩ ⟨hi,hV⟩;dsimp only at hi hV⊢;by_cases ab:i<N
 ·obtain⟨x,hx⟩:∃x,lab[i]? =some x:=⟨lab[i]' oM,AG oM⟩
  have a9:=Mw hx;have a0:=an i oM;repeat(refine sA ?_;intros)
  rename_i p' ac ah ai;refine Dn.round ⟨i+1,p',0,ac,ah⟩ ⟨ab,by rw[wA hx,flat_append];exact ai⟩ oD
 obtain rfl:i=N:=by omega
 have bc:(Ay lab).length=i:=by simp[Ay,ax]
 rw[A6 oM] at hV;clear ab;repeat(refine sA ?_;intros)
 refine cL am ?_;rintro _ _ ⟨bi,fl,rfl,rfl,hF⟩;try dsimp only[AA,AB]
 have a5:=hF.1;rw[AR] at a5;repeat(refine sA ?_;intros)
 refine G.loop (X:=CoX) (fun x=>x.i≤m∧x.k=(Ba (sl.take x.i) (fl.take x.i)).length∧x.k≤x.i∧Vec 33 5 x.p x.k x.cap (flat (Ba (sl.take x.i) (fl.take x.i))) x.ch)
  (fun x=>[(14,Z9 Z8 x.i),(13,.slice (some ⟨bi,0,none⟩) m m),(10,.slice x.p x.k x.cap),(9,.slice p1 i c1),(8,.slice pn m cn),(7,pv b7)])
  (fun x=>[[(b7,row [Z9 Z8 i,.slice pe m ce] 24)],[(bi,row (Fb fl) 4)],c,he,hn,ch,x.ch]) (fun x=>m-x.i) ⟨0,none,0,0,[]⟩ ⟨AU _,by simp[Ba],AI _,by simpa[Ba,flat] using Vec.nil 33 5⟩ oA7 oA3 ?_
 rintro⟨j,p2,k,c2,aj⟩ ⟨hj,hk,ao,ad⟩;dsimp only at hj hk ao ad⊢;by_cases ab:j<m
 ·have a6:sl[j]? =some sl[j]:=AG oM;have aq:fl[j]? =some fl[j]:=AG oM;have aa:=wB a6 aq;have be:(Fb fl)[j]? =some (.bool fl[j]):=by unfold Fb;rw[BM,aq];rfl
  obtain⟨eb,re,rfl,rfl,bf,bg,bh⟩:=Ty ak oM;obtain⟨nb,rn,rfl,rfl,bk,bp,a7⟩:=Ty aw oM;obtain⟨l1,l2,au,av⟩:∃l1 l2,sl=l1++sl[j]::l2∧l1.length=j:=⟨sl.take j,sl.drop (j+1),by rw[←BO oM,BV],by simp;omega⟩
  have g0:=aP l1 l2 sl[j] rn av;have g1:=aO l1 l2 sl[j] re av;rw[←au] at g0 g1;generalize sl[j]' oM=t at*;generalize fl[j]' oM=o at*;have ga:(Ft sl++re)[j*2]? =some (Z9 Z8 t.c1):=by have:=congrArg (fun l=>l[0]?) g1;simpa[BW,BS] using this
  have gb:(Ft sl++re)[j*2+1]? =some (Z9 Z8 t.c2):=by have:=congrArg (fun l=>l[1]?) g1;simpa[BW,BS] using this
  have a0:=an k oM;cases o with
  |true=>
   simp only[if_true] at aa;repeat(refine sA ?_;intros)
   rename_i p' ac ah ai;refine Dn.round ⟨j+1,p',k+1,ac,ah⟩ ⟨ab,by rw[aa,AH,←hk];rfl,oD,by rw[aa,flat_append];exact ai⟩ oD
  |false=>
   simp only[CE,if_false,AQ] at aa;repeat(refine sA ?_;intros)
   refine Dn.round ⟨j+1,p2,k,c2,aj⟩ ⟨ab,by rw[aa];exact hk,oD,by rw[aa];exact ad⟩ oD
 ·obtain rfl:j=m:=by omega
  rw[A6 oM,A6 oM] at ad;repeat(refine sA ?_;intros)
  (refine dP [c,ch,aj] ?_;exact⟨p1,i,c1,ch,p2,k,c2,aj,_,_,rfl,rfl,RV.vec hV,RV.vec ad,ao,sl,fl,lab,hp,hs,ay,hF,rfl,rfl⟩)
def Ga (a b:T5):Bool:=decide (a.c1<b.c1∨a.c1=b.c1∧(a.c2<b.c2∨a.c2=b.c2∧a.c0<b.c0))
theorem Wq {a b:T5}:Ga a b=true↔a.c1<b.c1∨a.c1=b.c1∧(a.c2<b.c2∨a.c2=b.c2∧a.c0<b.c0):=decide_eq_true_iff
theorem jR:Go.Srt.Swo Ga where
 asym a b h:=by
  rw[Wq] at h;cases hb:Ga b a with
  |false=>rfl
  |true=>rw[Wq] at hb;omega
 ntrans a b c h1 h2:=by
  cases hc:Ga a c with
  |false=>rfl
  |true=>
   have n1:¬(Ga a b=true):=by rw[h1];decide
   have n2:¬(Ga b c=true):=by rw[h2];decide
   rw[Wq] at n1 n2 hc;omega
theorem eQ3:∀t:T5,tv t= .agg #[Z9 Z8 t.c0,Z9 Z8 t.c1,Z9 Z8 t.c2,Z9 Z8 t.c3,Z9 Z8 t.c4]:=fun _=>rfl
theorem wD (a b:T5):CtQ AC 212 [tv a,tv b] [] (.bool (Ga a b)):=by
 have aa:=eQ3;rw[aa,aa];by_cases h1:a.c1=b.c1
 ·by_cases h2:a.c2=b.c2
  ·have e:dec (a.c0<b.c0)=Ga a b:=by rw[Gc];unfold Ga;exact decide_eq_decide.2 oM
   refine cG func212 fun _=>?_;repeat(refine sA ?_;intros)
   (refine dP [] ?_;exact⟨congrArg Value.bool e,rfl⟩)
  ·have e:dec (a.c2<b.c2)=Ga a b:=by rw[Gc];unfold Ga;exact decide_eq_decide.2 oM
   refine cG func212 fun _=>?_;repeat(refine sA ?_;intros)
   (refine dP [] ?_;exact⟨congrArg Value.bool e,rfl⟩)
 ·have e:dec (a.c1<b.c1)=Ga a b:=by rw[Gc];unfold Ga;exact decide_eq_decide.2 oM
  refine cG func212 fun _=>?_;repeat(refine sA ?_;intros)
  (refine dP [] ?_;exact⟨congrArg Value.bool e,rfl⟩)
def PutR (l:List T5) (t:T5) (r:List T5):Prop:=∃A B,l=A++B∧r=A++t::B∧(∀b∈B,Ga t b=true)∧∀x,A.getLast? =some x→Ga t x=false
def Sa (l:List T5):Prop:=l.Pairwise fun a b=>Ga b a=false
theorem PutR.perm {l r:List T5} {t:T5} (h:PutR l t r):r.Perm (t::l):=by obtain⟨A,B,rfl,rfl,_⟩:=h;exact B4
theorem PutR.sa {l r:List T5} {t:T5} (h:PutR l t r) (hs:Sa l):Sa r:=by
 obtain⟨A,B,rfl,rfl,hB,hA⟩:=h;unfold Sa at hs⊢;rw[B8] at hs⊢;have aa:∀a∈A,Ga t a=false:=by
  intro a ha;rcases List.eq_nil_or_concat A with rfl|⟨A',x,rfl⟩
  ·simp at ha
  ·rw[List.concat_eq_append] at*;have hx:=hA x oA19;rcases AS.1 ha with h|h
   ·have h1:=(B8.1 hs.1).2.2 a h x oA19;exact jR.ntrans _ _ _ hx h1
   ·simp only[AW] at h;subst h;exact hx
 rw[BF];exact⟨hs.1,⟨fun b hb=>jR.asym _ _ (hB b hb),hs.2.1⟩,fun a ha b hb=>by
  rcases AM.1 hb with rfl|hb
  ·exact aa a ha
  ·exact hs.2.2 a ha b hb⟩
structure PutX where
 kz:Int
 A:List T5
 B:List T5
theorem jS (p:Option Addr) (m cap:Nat) (l:List T5) (c:Aa) (hV:Vec 33 5 p m cap (flat l) c) (hm:m≤1000000) (t:T5):Ct AC 166 [.slice p m cap,tv t] [c] fun v H'=>∃p' cap' c' r,v= .slice p' (m+1) cap'∧H'=[c']∧Vec 33 5 p' (m+1) cap' (flat r) c'∧PutR l t r:=by
 have ae:=eQ3;have ag:=fun a b=>wD a b;have hl:l.length=m:=by have:=hV.1;rw[Sj] at this;omega
 have ao:m+1≤maxLen:=by simp only[maxLen];omega
 simp only[ae] at ag;rw[ae];refine cG func166 fun _=>?_;repeat(first|(refine st ?_;intros)|refine G.draw (id:=3) [(12,.quiet)] (h:=?_)|refine cq hL ?_)
 rename_i b3 b9 p' cap' c' ah;have aj:Vec 33 5 p' (m+1) cap' (flat (l++[t])) c':=by rw[flat_append];exact ah
 obtain⟨rb,re,rfl,rfl,ak,al,am⟩:=Ty aj (Nat.succ_pos _);clear hV ah;rw[Sj,AH,CY,hl] at ak;have hw:((m+1:Nat):Int)-1=(m:Int):=oM;refine G.loop (X:=PutX) (fun x=>x.A++x.B=l∧x.kz=(x.A.length:Int)∧∀u∈x.B,Ga t u=true)
  (fun x=>[(5,Z9 Z8 x.kz),(0,.slice (some ⟨rb,0,none⟩) (m+1) cap')])
  (fun x=>[[(rb,row (flat (x.A++t::x.B)++re) 33)]]) (fun x=>x.A.length) ⟨((m+1:Nat):Int)-1,l,[]⟩ ⟨by simp,oD,by simp⟩ (body:=?_)
 rintro⟨kz,A,B⟩ ⟨aa,ad,hB⟩;dsimp only at aa ad hB⊢;have ai:A.length+B.length=m:=by rw[←hl,←aa,AH]
 have ab:Vec 33 5 (some ⟨rb,0,none⟩) (m+1) cap' (flat (A++t::B)) [(rb,row (flat (A++t::B)++re) 33)]:=
  Vec.mk' rfl (by rw[Sj];simp;omega) (by rw[AH,Sj];simp;omega) al am
 rcases List.eq_nil_or_concat A with rfl|⟨A',x,rfl⟩
 ·have aq:kz=0:=by simpa using ad
  repeat(first|(refine st ?_;intros)|refine G.draw (id:=3) [(12,.quiet)] (h:=?_)|refine cq hL ?_)
  (refine dP [[(rb,row (flat ([]++t::B)++re) 33)]] ?_;exact⟨_,cap',_,_,rfl,rfl,ab,[],B,aa.symm,rfl,hB,by simp⟩)
 ·have au:kz=((A'.length+1:Nat):Int):=by simpa using ad
  have ek:kz.toNat=A'.length+1:=oM;have av:(kz-1).toNat=A'.length:=oM;have aw:A'.length+1+B.length=m:=by simpa using ai
  have ac:∀u v:T5,(A'++[u])++v::B=A'++u::v::B:=fun u v=>by simp
  rw[List.concat_eq_append] at*;rw[ac] at ab⊢;have c1:=t_cut (A'++[x]) B t re (k:=A'.length+1) oA19;have c2:=t_cut A' (t::B) x re rfl;have s1:=t_set (A'++[x]) B t x re (k:=A'.length+1) oA19;have s2:=t_set A' (x::B) x t re rfl;simp only[ac] at c1 s1;have l1:(A'.length+1)*5+5≤(flat (A'++x::t::B)++re).length:=by rw[AH,Sj];simp;omega
  have l2:(A'.length+1)*5+5≤(flat (A'++x::x::B)++re).length:=by rw[AH,Sj];simp;omega
  have hL:=ag t x;cases hxt:Ga t x with
  |true=>
   rw[hxt] at hL;generalize an:flat (A'++x::t::B)++re=r0 at*;generalize ax:flat (A'++x::x::B)++re=r1 at*;repeat(first|(refine st ?_;intros)|refine G.draw (id:=3) [(12,.quiet)] (h:=?_)|refine cq hL ?_)
   refine Dn.round ⟨kz-1,A',x::B⟩ ⟨by rw[←aa];simp,oD,fun u hu=>?_⟩ oA19;rcases AM.1 hu with rfl|hu
   ·exact hxt
   ·exact hB u hu
  |false=>
   rw[hxt] at hL;generalize an:flat (A'++x::t::B)++re=r0 at*;repeat(first|(refine st ?_;intros)|refine G.draw (id:=3) [(12,.quiet)] (h:=?_)|refine cq hL ?_)
   (refine dP [[(rb,row r0 33)]] ?_;exact⟨_,cap',_,A'++x::t::B,rfl,rfl,ab,A'++[x],B,aa.symm,by simp,hB,fun y hy=>by simp at hy;subst hy;exact hxt⟩)
def Lf (a:List T5) (t:T5):List T5:=[⟨2*t.c0,t.c1,t.c2,(at5 a t.c1.toNat).c1,0⟩,⟨2*t.c0+1,t.c2,t.c1,(at5 a t.c1.toNat).c1,0⟩]
def Kn (a f:List T5):List T5:=f.flatMap (Lf a)
theorem wE {a f:List T5} {i:Nat} {t:T5} (h:f[i]? =some t):Kn a (f.take (i+1))=Kn a (f.take i)++Lf a t:=by unfold Kn;rw[BP,h];simp
structure ArX where
 i:Nat
 n:Nat
 p:Option Addr
 cap:Nat
 ch:Aa
 r:List T5
theorem wF (pa:Option Addr) (na ka:Nat) (a:List T5) (ca:Aa) (ad:RV pa na a ca) (pf:Option Addr) (nf kf:Nat) (f:List T5) (cf:Aa) (ac:RV pf nf f cf) (hn:nf≤100000) (a1:na≤1000000) (hf:∀t∈f,0≤t.c0∧t.c0≤1099511627776∧0≤t.c1∧t.c1<na):Ct AC 102 [.slice pa na ka,.slice pf nf kf] [ca,cf] fun v H'=>∃p cap c r,v= .slice p (2*nf) cap∧H'=[ca,cf,c]∧Vec 33 5 p (2*nf) cap (flat r) c∧r.Perm (Kn a f)∧Sa r:=by
 have a2:=ac.1;have a3:=ad.1;have ae:=eQ3;refine cG func102 fun _=>?_;repeat(refine sA ?_;intros)
 refine G.loop (X:=ArX) (fun x=>x.i≤nf∧x.n=2*x.i∧Vec 33 5 x.p x.n x.cap (flat x.r) x.ch∧x.r.Perm (Kn a (f.take x.i))∧Sa x.r)
  (fun x=>[(6,Z9 Z8 x.i),(5,.slice x.p x.n x.cap),(1,.slice pf nf kf),(0,.slice pa na ka)])
  (fun x=>[ca,cf,x.ch]) (fun x=>nf-x.i) ⟨0,0,none,0,[],[]⟩ ⟨AU _,rfl,Vec.nil _ _,by simp[Kn],DH⟩ oA7 oA3 ?_
 rintro⟨i,n,p,cap,ch,r⟩ ⟨hi,ag,hV,hp,hs⟩;dsimp only at hi ag hV hp hs⊢;by_cases ao:i<nf
 ·obtain⟨b,off,cs,T,fz,rfl,rfl,_,aa⟩:=(RV.rw ac).pos Es oM;have hit:f[i]? =some f[i]:=AG oM;have q0:=aa i 0 _ _ hit rfl;have q1:=aa i 1 _ _ hit rfl;have q2:=aa i 2 _ _ hit rfl;rw[B7] at q0;obtain⟨f1,f2,f3,f4⟩:=hf _ (AY hit);have aq:=wE (a:=a) hit;generalize ht:f[i]=t at*;obtain⟨u,hu⟩:∃u:Nat,t.c1=(u:Int):=⟨t.c1.toNat,oM⟩
  have au:t.c1.toNat=u:=oM;obtain⟨b2,a0,a4,T2,a5,rfl,rfl,_,ab⟩:=(RV.rw ad).pos Es oM;have ah:a[u]? =some a[u]:=AG oM;have r1:=ab u 1 _ _ ah rfl;have ai:at5 a t.c1.toNat=a[u]:=by rw[au];unfold at5;rw[AP,ah];rfl
  generalize ha:a[u]=w at*;have e1:AL .i64 (2*t.c0)=2*t.c0:=Ah oM;have e2:AL .i64 (2*t.c0+1)=2*t.c0+1:=Ah oM;have hP:=jS p n cap r ch hV oM ⟨2*t.c0,t.c1,t.c2,w.c1,0⟩;rw[ae] at hP;repeat(refine sA ?_;intros)
  refine cL hP ?_;rintro _ _ ⟨p1,aj,av,aw,rfl,rfl,ax,ak⟩;try dsimp only[AA,AB]
  have al:=jS p1 (n+1) aj aw av ax oM ⟨2*t.c0+1,t.c2,t.c1,w.c1,0⟩;rw[ae] at al;repeat(refine sA ?_;intros)
  refine cL al ?_;rintro _ _ ⟨p2,am,ay,r2,rfl,rfl,az,an⟩;repeat(refine sA ?_;intros)
  refine Dn.round ⟨i+1,n+1+1,p2,am,ay,r2⟩ ⟨ao,oD,az,?_,an.sa (ak.sa hs)⟩ oD;dsimp only;rw[aq];unfold Lf;rw[ai];refine an.perm.trans (((ak.perm.trans (hp.cons _)).cons _).trans ?_);refine(CS _ _ _).trans ?_;exact CI (l₁:=[_,_])
 ·obtain rfl:i=nf:=by omega
  rw[A6 oM] at hp;obtain rfl:=ag;repeat(refine sA ?_;intros)
  (refine dP [ca,cf,ch] ?_;exact⟨p,cap,ch,r,rfl,rfl,hV,hp,hs⟩)
def Eg (r:List T5):Nat→Nat
 |0=>0
 |k+1=>if(at5 r k).c1=(at5 r (k+1)).c1 then Eg r k else k+1
def Gb (r:List T5) (k:Nat):Nat:=if k+1<r.length∧(at5 r (k+1)).c1=(at5 r k).c1 then k+1 else Eg r k
theorem Dx {r:List T5} {k:Nat} (h:k<r.length):r[k]? =some (at5 r k):=by unfold at5;rw[AP,AG h];rfl
theorem jT (r:List T5):∀k,Eg r k≤k
 |0=>AI _
 |k+1=>by unfold Eg;split;exact Nat.le_succ_of_le (jT r k);exact AI _
theorem wG {r:List T5} {k:Nat} (h:k<r.length):Gb r k<r.length:=by
 unfold Gb;split
 ·omega
 ·have:=jT r k;omega
theorem wH (p:Option Addr) (m cap:Nat) (r:List T5) (c:Aa) (hv:RV p m r c) (hm:m≤1000000) (k:Nat) (hk:k<m):CtQ AC 103 [.slice p m cap,Z9 Z8 k] [c] (Z9 Z8 (Gb r k:Int)):=by
 have hl:=hv.1;obtain⟨b,off,cs,T,fz,rfl,rfl,_,ab⟩:=(RV.rw hv).pos Es oM;have hg:∀j,j<m→cs[off+j*5+1]? =some (Z9 Z8 (at5 r j).c1):=fun j hj=>ab j 1 _ _ (Dx oM) rfl;have q0:=hg k hk;have ek:((k:Int)+1).toNat=k+1:=oM;by_cases h1:k+1<m
 ·have q1:=hg (k+1) h1;by_cases h2:(at5 r (k+1)).c1=(at5 r k).c1
  ·have hb:Gb r k=k+1:=by unfold Gb;rw[if_pos ⟨oM,h2⟩]
   have ac:((Gb r k:Nat):Int)=(k:Int)+1:=oM;rw[ac];refine cG func103 fun w0=>?_;repeat(refine sv ?_;intros)
   (refine dP [[(b,An cs T fz)]] ?_;exact⟨rfl,rfl⟩)
  ·have hb:Gb r k=Eg r k:=by unfold Gb;rw[if_neg (fun h=>h2 h.2)]
   rw[hb];refine cG func103 fun w0=>?_;repeat(refine sv ?_;intros)
   refine G.loop (X:=Int) (fun z=>0≤z∧z<(m:Int)∧Eg r z.toNat=Eg r k) (fun z=>[(1,Z9 Z8 z),(0,.slice (some ⟨b,off,none⟩) m cap)])
    (fun _=>[[(b,An cs T fz)]]) (fun z=>z.toNat) (k:Int) ⟨oM,oM,by rw[AV]⟩ (body:=?_)
   rintro z ⟨z0,zm,hz⟩;obtain⟨j,rfl⟩:∃j:Nat,z=(j:Int):=⟨z.toNat,oM⟩
   have ej:((j:Int)).toNat=j:=AV j;rw[ej] at hz;cases j with
   |zero=>
    have hh:Eg r k=0:=by rw[←hz];rfl
    repeat(refine sv ?_;intros)
    (refine dP [[(b,An cs T fz)]] ?_;exact⟨congrArg (Value.int .i64) oM,rfl⟩)
   |succ j=>
    have w0:=hg (j+1) oM;have w1:=hg j oM;have aa:(((j+1:Nat):Int)-1).toNat=j:=oM;have ad:((j+1:Nat):Int)-1=(j:Int):=oM;by_cases h3:(at5 r j).c1=(at5 r (j+1)).c1
    ·have hs:Eg r (j+1)=Eg r j:=by rw[Eg,if_pos h3]
     repeat(refine sv ?_;intros)
     refine Dn.round (((j+1:Nat):Int)-1) ⟨oM,oM,by rw[aa,←hz,hs]⟩ oM
    ·have hs:Eg r (j+1)=j+1:=by rw[Eg,if_neg h3]
     repeat(refine sv ?_;intros)
     (refine dP [[(b,An cs T fz)]] ?_;exact⟨congrArg (Value.int .i64) oM,rfl⟩)
 ·have hb:Gb r k=Eg r k:=by unfold Gb;rw[if_neg (fun h=>h1 oM)]
  rw[hb];refine cG func103 fun w0=>?_;repeat(refine sv ?_;intros)
  refine G.loop (X:=Int) (fun z=>0≤z∧z<(m:Int)∧Eg r z.toNat=Eg r k) (fun z=>[(1,Z9 Z8 z),(0,.slice (some ⟨b,off,none⟩) m cap)])
   (fun _=>[[(b,An cs T fz)]]) (fun z=>z.toNat) (k:Int) ⟨oM,oM,by rw[AV]⟩ (body:=?_)
  rintro z ⟨z0,zm,hz⟩;obtain⟨j,rfl⟩:∃j:Nat,z=(j:Int):=⟨z.toNat,oM⟩
  have ej:((j:Int)).toNat=j:=AV j;rw[ej] at hz;cases j with
  |zero=>
   have hh:Eg r k=0:=by rw[←hz];rfl
   repeat(refine sv ?_;intros)
   (refine dP [[(b,An cs T fz)]] ?_;exact⟨congrArg (Value.int .i64) oM,rfl⟩)
  |succ j=>
   have w0:=hg (j+1) oM;have w1:=hg j oM;have aa:(((j+1:Nat):Int)-1).toNat=j:=oM;have ad:((j+1:Nat):Int)-1=(j:Int):=oM;by_cases h3:(at5 r j).c1=(at5 r (j+1)).c1
   ·have hs:Eg r (j+1)=Eg r j:=by rw[Eg,if_pos h3]
    repeat(refine sv ?_;intros)
    refine Dn.round (((j+1:Nat):Int)-1) ⟨oM,oM,by rw[aa,←hz,hs]⟩ oM
   ·have hs:Eg r (j+1)=j+1:=by rw[Eg,if_neg h3]
    repeat(refine sv ?_;intros)
    (refine dP [[(b,An cs T fz)]] ?_;exact⟨congrArg (Value.int .i64) oM,rfl⟩)
def itF (f:Nat→Nat):Nat→Nat→Nat
 |0,x=>x
 |n+1,x=>f (itF f n x)
theorem Di {m:Nat} {f:Nat→Nat} (hf:∀k,k<m→f k<m) {i:Nat} (hi:i<m):∀n,itF f n i<m
 |0=>hi
 |n+1=>hf _ (Di hf hi n)
theorem Pb (f:Nat→Nat) (b x:Nat):∀a,itF f (a+b) x=itF f a (itF f b x)
 |0=>by rw[Nat.zero_add];rfl
 |a+1=>by rw[Nat.succ_add];show f _=f _;rw[Pb f b x a]
theorem Wr {m:Nat} {f:Nat→Nat} (hf:∀k,k<m→f k<m) (hj:∀a b,a<m→b<m→f a=f b→a=b) {x y:Nat} (hx:x<m) (hy:y<m):∀n,itF f n x=itF f n y→x=y
 |0,h=>h
 |n+1,h=>Wr hf hj hx hy n (hj _ _ (Di hf hx n) (Di hf hy n) h)
theorem aR {g:Nat→Nat}:∀{n:Nat},¬((BE n).map g).Nodup→∃a b,a<b∧b<n∧g a=g b
 |0,h=>(h oA19).elim
 |n+1,h=>by
  rw[D2,A0,B9] at h;by_cases h1:((BE n).map g).Nodup
  ·by_cases h2:g n∈(BE n).map g
   ·obtain⟨a,ha,he⟩:=AN.1 h2;exact⟨a,n,BD.1 ha,Nat.lt_succ_self n,he⟩
   ·refine(h ⟨h1,by simp,?_⟩).elim;intro x hx y hy e;simp only[AZ,CG,AW] at hy;subst hy;subst e;exact h2 hx
  ·obtain⟨a,b,h1,h2,h3⟩:=aR h1;exact⟨a,b,h1,Nat.lt_succ_of_lt h2,h3⟩
theorem wI {m:Nat} {f:Nat→Nat} (hf:∀k,k<m→f k<m) (hj:∀a b,a<m→b<m→f a=f b→a=b) {i:Nat} (hi:i<m):∃P,0<P∧P≤m∧itF f P i=i:=by
 have hn:¬((BE (m+1)).map fun n=>itF f n i).Nodup:=by
  intro h;have:=h.length_le_of_subset (l₂:=BE m) (by
   intro x hx;obtain⟨n,_,rfl⟩:=AN.1 hx;exact BD.2 (Di hf hi n))
  simp at this;omega
 obtain⟨a,b,h1,h2,h3⟩:=aR hn;refine⟨b-a,oM,oM,?_⟩;have h4:b=a+(b-a):=oM;rw[h4,Pb] at h3;exact(Wr hf hj hi (Di hf hi _) a h3).symm
def perF (f:Nat→Nat) (m i:Nat):Nat:=((BE m).find? fun n=>itF f (n+1) i==i).getD 0+1
theorem wJ {m:Nat} {f:Nat→Nat} {i:Nat} (h:∃P,0<P∧P≤m∧itF f P i=i):0<perF f m i∧perF f m i≤m∧itF f (perF f m i) i=i∧∀n,0<n→n<perF f m i→itF f n i≠i:=by
 obtain⟨P,h0,hP,hi⟩:=h;unfold perF;cases hf:(BE m).find? fun n=>itF f (n+1) i==i with
 |none=>
  rw[DY] at hf;refine(hf (P-1) (BD.2 oM) ?_).elim;rw[show P-1+1=P by omega,hi];simp
 |some q=>
  rw[List.find?_range_eq_some] at hf;obtain⟨h1,h2,h3⟩:=hf;rw[BD] at h2;refine⟨Nat.succ_pos _,h2,by simpa using h1,?_⟩;intro n hn hq he;have:=h3 (n-1) (by simp only[Option.getD_some] at hq;omega);rw[show n-1+1=n by omega,he] at this;simp at this
theorem Ws {r:List T5} {k:Nat} (h:k<r.length):at5 r k∈r:=AY (Dx h)
theorem Wt {r:List T5} {t:T5} (h:t∈r):∃k,k<r.length∧at5 r k=t:=by obtain⟨k,hk,rfl⟩:=B3.1 h;exact⟨k,hk,BC ((Dx hk).symm.trans (AG hk))⟩
theorem wK {r:List T5} (hs:Sa r) {i j:Nat} (aa:i<j) (hj:j<r.length):Ga (at5 r j) (at5 r i)=false:=by have h1:=Dx (Nat.lt_trans aa hj);have h2:=Dx hj;rw[AK] at h1 h2;obtain⟨_,h1⟩:=h1;obtain⟨_,h2⟩:=h2;rw[←h1,←h2];exact A9.1 hs i j _ _ aa
theorem Pc {r:List T5} (hs:Sa r) {i j:Nat} (aa:i≤j) (hj:j<r.length):(at5 r i).c1≤(at5 r j).c1:=by
 rcases Nat.eq_or_lt_of_le aa with rfl|h
 ·exact Int.le_refl _
 ·have h1:=wK hs h hj;have h2:¬(Ga (at5 r j) (at5 r i)=true):=by rw[h1];decide
  rw[Wq] at h2;omega
theorem jU (r:List T5):∀k,(at5 r (Eg r k)).c1=(at5 r k).c1
 |0=>rfl
 |k+1=>by
  unfold Eg;split
  next h=>rw[jU r k,h]
  next=>rfl
theorem aS (r:List T5):∀{k j:Nat},Eg r k=j+1→(at5 r j).c1≠(at5 r (j+1)).c1
 |0,j,h=>by unfold Eg at h;omega
 |k+1,j,h=>by
  unfold Eg at h;split at h
  next=>exact aS r h
  next hne=>
        obtain rfl:k=j:=by omega
        exact hne
theorem aU (r:List T5) (k:Nat):(at5 r (Gb r k)).c1=(at5 r k).c1:=by
 unfold Gb;split
 next h=>exact h.2
 next=>exact jU r k
theorem wL {r:List T5} (hs:Sa r) {a b:Nat} (ha:a<r.length) (hb:b<r.length) (h:Gb r a=Gb r b):a=b:=by
 have hc:(at5 r a).c1=(at5 r b).c1:=by rw[←aU r a,←aU r b,h]
 unfold Gb at h;split at h
 next h1=>
  split at h
  next h2=>omega
  next h2=>exact absurd h1.2.symm (aS r h.symm)
 next h1=>
  split at h
  next h2=>exact absurd h2.2.symm (aS r h)
  next h2=>
   rcases Nat.lt_trichotomy a b with h3|h3|h3
   ·have e1:=Pc hs (show a≤a+1 by omega) (show a+1<r.length by omega);have e2:=Pc hs (show a+1≤b from h3) hb;exact absurd ⟨oM,oM⟩ h1
   ·exact h3
   ·have e1:=Pc hs (show b≤b+1 by omega) (show b+1<r.length by omega);have e2:=Pc hs (show b+1≤a from h3) ha;exact absurd ⟨oM,oM⟩ h2
def Fe (r:List T5) (k:Nat):Nat:=((BE r.length).find? fun i=>decide (i≠k∧(at5 r i).c0.tdiv 2=(at5 r k).c0.tdiv 2)).getD k
theorem Mz {r:List T5} {k:Nat} (h:k<r.length):Fe r k<r.length:=by
 unfold Fe;cases hf:(BE r.length).find? fun i=>decide (i≠k∧(at5 r i).c0.tdiv 2=(at5 r k).c0.tdiv 2) with
 |none=>exact h
 |some q=>exact BD.1 (DC hf)
structure Cr (a f r:List T5):Prop where
 perm:r.Perm (Kn a f)
 sa:Sa r
 nd:(f.map (·.c0)).Nodup
 pos:∀t∈f,0≤t.c0
def Ff (x:Int):Int:=if x%2=0 then x+1 else x-1
theorem aV:∀{f:List T5},(f.map (·.c0)).Nodup→∀(a:List T5),((Kn a f).map (·.c0)).Nodup
 |[],_,_=>by simp[Kn]
 |t::f,h,a=>by
  rw[AZ,List.nodup_cons] at h;have ih:=aV h.2 a;have hm:∀x∈Kn a f,∃e∈f,x.c0=2*e.c0∨x.c0=2*e.c0+1:=by
   intro x hx;obtain⟨e,he,hx⟩:=BZ.1 hx;refine⟨e,he,?_⟩;simp only[Lf,AM,DU,or_false] at hx;rcases hx with rfl|rfl
   ·exact .inl rfl
   ·exact .inr rfl
  have aa:∀e∈f,e.c0≠t.c0:=fun e he hq=>h.1 (AN.2 ⟨e,he,hq⟩);unfold Kn at ih hm⊢;rw[List.flatMap_cons,A0,B9];refine⟨by simp[Lf];omega,ih,?_⟩;intro x hx y hy e;subst e;obtain⟨z,hz,ab⟩:=AN.1 hy;obtain⟨e,he,h1⟩:=hm z hz;have:=aa e he;simp only[Lf,AZ,CG,AM,DU,or_false] at hx;omega
namespace Cr
variable {a f r:List T5}
theorem edge (A:Cr a f r) {k:Nat} (h:k<r.length):∃e∈f,at5 r k=⟨2*e.c0,e.c1,e.c2,(at5 a e.c1.toNat).c1,0⟩∨at5 r k=⟨2*e.c0+1,e.c2,e.c1,(at5 a e.c1.toNat).c1,0⟩:=by obtain⟨e,he,hx⟩:=BZ.1 (A.perm.mem_iff.1 (Ws h));refine⟨e,he,?_⟩;simpa only[Lf,AM,DU,or_false] using hx
theorem arc (A:Cr a f r) {e t:T5} (he:e∈f) (ht:t∈Lf a e):∃k,k<r.length∧at5 r k=t:=Wt (A.perm.mem_iff.2 (BZ.2 ⟨e,he,ht⟩))
theorem num (A:Cr a f r) {i j:Nat} (hi:i<r.length) (hj:j<r.length) (h:(at5 r i).c0=(at5 r j).c0):i=j:=by have hn:(r.map (·.c0)).Nodup:=(A.perm.map _).nodup_iff.2 (aV A.nd a);have h1:=Dx hi;have h2:=Dx hj;rw[AK] at h1 h2;obtain⟨_,h1⟩:=h1;obtain⟨_,h2⟩:=h2;refine(List.getElem_inj (h₀:=by simpa using hi) (h₁:=by simpa using hj) hn).1 ?_;rw[List.getElem_map,List.getElem_map,h1,h2,h]
theorem bro (A:Cr a f r) {k:Nat} (h:k<r.length):(at5 r (Fe r k))=⟨Ff (at5 r k).c0,(at5 r k).c2,(at5 r k).c1,(at5 r k).c3,0⟩:=by
 obtain⟨e,he,hk⟩:=A.edge h;have an:=A.pos e he;have ac:∀x:Int,0≤x→x.tdiv 2=x/2:=fun x hx=>CR hx;have ab:∀{j:Nat},j<r.length→0≤(at5 r j).c0:=by intro j hj;obtain⟨e',aj,ad⟩:=A.edge hj;have:=A.pos e' aj;rcases ad with ad|ad<;>rw[ad]<;>dsimp only<;>omega
 obtain⟨j,hj,aa⟩:∃j,j<r.length∧at5 r j=⟨Ff (at5 r k).c0,(at5 r k).c2,(at5 r k).c1,(at5 r k).c3,0⟩:=by
  rcases hk with hk|hk
  ·obtain⟨j,hj,aa⟩:=A.arc he (t:=⟨2*e.c0+1,e.c2,e.c1,(at5 a e.c1.toNat).c1,0⟩) (by simp[Lf]);refine⟨j,hj,?_⟩;have:Ff (2*e.c0)=2*e.c0+1:=by unfold Ff;rw[if_pos oM]
   rw[aa,hk];dsimp only;rw[this]
  ·obtain⟨j,hj,aa⟩:=A.arc he (t:=⟨2*e.c0,e.c1,e.c2,(at5 a e.c1.toNat).c1,0⟩) (by simp[Lf]);refine⟨j,hj,?_⟩;have:Ff (2*e.c0+1)=2*e.c0:=by unfold Ff;rw[if_neg oM];omega
   rw[aa,hk];dsimp only;rw[this]
 have ae:(at5 r j).c0=Ff (at5 r k).c0:=by rw[aa]
 have ah:=ab h;have ak:=ab hj;have al:j≠k:=by rintro rfl;unfold Ff at ae;split at ae<;>omega
 have ai:(at5 r j).c0.tdiv 2=(at5 r k).c0.tdiv 2:=by rw[ac _ ah,ac _ ak,ae];unfold Ff;split<;>omega
 have ag:∀i,i<r.length→i≠k→(at5 r i).c0.tdiv 2=(at5 r k).c0.tdiv 2→i=j:=by intro i hi am hd;rw[ac _ ah,ac _ (ab hi)] at hd;refine A.num hi hj ?_;have hn:(at5 r i).c0≠(at5 r k).c0:=fun hq=>am (A.num hi h hq);rw[ae];unfold Ff;split<;>omega
 have hb:Fe r k=j:=by
  unfold Fe;cases hf:(BE r.length).find? fun i=>decide (i≠k∧(at5 r i).c0.tdiv 2=(at5 r k).c0.tdiv 2) with
  |none=>
   rw[DY] at hf;exact(hf j (BD.2 hj) (decide_eq_true ⟨al,ai⟩)).elim
  |some q=>
   have h1:=List.find?_some hf;have h2:=BD.1 (DC hf);have h3:=of_decide_eq_true h1;exact ag q h2 h3.1 h3.2
 rw[hb,aa]
theorem bro_inj (A:Cr a f r) {x y:Nat} (hx:x<r.length) (hy:y<r.length) (h:Fe r x=Fe r y):x=y:=by have h1:=A.bro hx;have h2:=A.bro hy;rw[h,h2] at h1;have h3:=congrArg T5.c0 h1;dsimp only at h3;refine A.num hx hy ?_;unfold Ff at h3;split at h3<;>split at h3<;>omega
end Cr
def Aw (r:List T5) (k:Nat):Nat:=Gb r (Fe r k)
theorem Dr {r:List T5} (k:Nat) (h:k<r.length):Aw r k<r.length:=wG (Mz h)
theorem Cr.sig_inj {a f r:List T5} (A:Cr a f r) (x y:Nat) (hx:x<r.length) (hy:y<r.length) (h:Aw r x=Aw r y):x=y:=A.bro_inj hx hy (wL A.sa (Mz hx) (Mz hy) h)
theorem Cr.sig_from {a f r:List T5} (A:Cr a f r) {k:Nat} (h:k<r.length):(at5 r (Aw r k)).c1=(at5 r k).c2:=by unfold Aw;rw[aU,A.bro h]
def Bz (r:List T5) (i:Nat):Nat:=perF (Aw r) r.length i
def Ds (r:List T5) (i n:Nat):T5:={at5 r (itF (Aw r) n i) with c4:=(n:Int)}
def Lg (r:List T5) (i:Nat):List T5:=(BE (Bz r i)).map (Ds r i)
def Fg (r:List T5) (i:Nat):Bool:=decide ((at5 r i).c1=(at5 r i).c3∧(0<i→(at5 r (i-1)).c1≠(at5 r i).c1))
def Gp (r:List T5) (n:Nat):List T5:=(BE n).flatMap fun i=>if Fg r i then Lg r i else[]
def Jx (r:List T5):List T5:=Gp r r.length
theorem Wu (r:List T5) (n:Nat):Gp r (n+1)=Gp r n++if Fg r n then Lg r n else[]:=by unfold Gp;rw[D2,CJ];simp
theorem Cr.per {a f r:List T5} (A:Cr a f r) {i:Nat} (h:i<r.length):0<Bz r i∧Bz r i≤r.length∧itF (Aw r) (Bz r i) i=i∧∀n,0<n→n<Bz r i→itF (Aw r) n i≠i:=wJ (wI Dr A.sig_inj h)
theorem aW (r:List T5) (i:Nat):(Lg r i).length=Bz r i:=by unfold Lg;simp
theorem Cr.to_len {a f r:List T5} (A:Cr a f r):∀{n:Nat},n≤r.length→(Gp r n).length≤n*r.length
 |0,_=>by simp[Gp]
 |n+1,h=>by
  have ih:=A.to_len (n:=n) oM;have hp:=(A.per (i:=n) oM).2.1;rw[Wu,AH,Nat.succ_mul];split
  ·rw[aW];omega
  ·simp only[List.length_nil];omega
def Na (r:List T5) (n:Nat):List Nat:=(BE n).flatMap fun i=>if Fg r i then(BE (Bz r i)).map fun k=>itF (Aw r) k i else[]
theorem aX (r:List T5) (n:Nat):Na r (n+1)=Na r n++if Fg r n then(BE (Bz r n)).map (fun k=>itF (Aw r) k n) else[]:=by unfold Na;rw[D2,CJ];simp
theorem jV (r:List T5):∀n,(Na r n).length=(Gp r n).length
 |0=>rfl
 |n+1=>by
  rw[aX,Wu,AH,AH,jV r n];split
  ·rw[aW];simp
  ·rfl
theorem aY {r:List T5} {n x:Nat} (h:x∈Na r n):∃i,i<n∧Fg r i=true∧∃k,k<Bz r i∧x=itF (Aw r) k i:=by
 obtain⟨i,hi,hx⟩:=BZ.1 h;split at hx
 next hr=>
  obtain⟨k,hk,rfl⟩:=AN.1 hx;exact⟨i,BD.1 hi,hr,k,BD.1 hk,rfl⟩
 next=>simp at hx
namespace Cr
variable {a f r:List T5}
theorem lab (A:Cr a f r) (hl:∀e∈f,(at5 a e.c1.toNat).c1=(at5 a e.c2.toNat).c1) {k:Nat} (h:k<r.length):(at5 r k).c3=(at5 a (at5 r k).c1.toNat).c1:=by
 obtain⟨e,he,hk|hk⟩:=A.edge h
 ·rw[hk]
 ·rw[hk];exact hl e he
theorem sig_lab (A:Cr a f r) (hl:∀e∈f,(at5 a e.c1.toNat).c1=(at5 a e.c2.toNat).c1) {k:Nat} (h:k<r.length):(at5 r (Aw r k)).c3=(at5 r k).c3:=by have h1:=A.lab hl (Dr k h);have h2:=A.lab hl (Mz h);rw[A.bro h] at h2;dsimp only at h2;rw[h1,A.sig_from h,h2]
theorem it_lab (A:Cr a f r) (hl:∀e∈f,(at5 a e.c1.toNat).c1=(at5 a e.c2.toNat).c1) {i:Nat} (h:i<r.length):∀k,(at5 r (itF (Aw r) k i)).c3=(at5 r i).c3
 |0=>rfl
 |k+1=>by show(at5 r (Aw r (itF (Aw r) k i))).c3=_;rw[A.sig_lab hl (Di Dr h k),A.it_lab hl h k]
theorem root_uniq (A:Cr a f r) {i j:Nat} (ac:i<j) (hj:j<r.length) (aa:Fg r i=true) (ab:Fg r j=true):(at5 r i).c3≠(at5 r j).c3:=by intro h;unfold Fg at aa ab;obtain⟨i1,_⟩:=of_decide_eq_true aa;obtain⟨j1,j2⟩:=of_decide_eq_true ab;have e1:=Pc A.sa (show i≤j-1 by omega) oM;have e2:=Pc A.sa (show j-1≤j by omega) hj;exact j2 oM oM
theorem idx_nodup (A:Cr a f r) (hl:∀e∈f,(at5 a e.c1.toNat).c1=(at5 a e.c2.toNat).c1):∀{n:Nat},n≤r.length→(Na r n).Nodup
 |0,_=>by simp[Na]
 |n+1,h=>by
  rw[aX,B9];obtain⟨P0,P1,P2,P3⟩:=A.per (i:=n) oM;refine⟨A.idx_nodup hl oM,?_,?_⟩
  ·split
   ·by_cases hn:((BE (Bz r n)).map fun k=>itF (Aw r) k n).Nodup
    ·exact hn
    ·obtain⟨x,y,h1,h2,h3⟩:=aR hn;rw[show y=x+(y-x) by omega,Pb] at h3;have:=Wr (f:=Aw r) Dr A.sig_inj (show n<r.length by omega) (Di Dr oM _) x h3;exact(P3 (y-x) oM oM this.symm).elim
   ·simp
  ·intro x hx y hy aa;subst aa;split at hy
   next hr=>
    obtain⟨k,_,hk⟩:=AN.1 hy;obtain⟨i,hi,ab,k2,_,ac⟩:=aY hx;refine A.root_uniq hi oM ab hr ?_;rw[←A.it_lab hl (show i<r.length by omega) k2,←ac,←hk,A.it_lab hl oM k]
   next=>simp at hy
theorem tours_len (A:Cr a f r) (hl:∀e∈f,(at5 a e.c1.toNat).c1=(at5 a e.c2.toNat).c1):(Jx r).length≤r.length:=by
 unfold Jx;rw[←jV];have:=(A.idx_nodup hl (AI _)).length_le_of_subset (l₂:=BE r.length) (by
  intro x hx;obtain⟨i,hi,_,k,_,rfl⟩:=aY hx;exact BD.2 (Di Dr hi k))
 simpa using this
end Cr
theorem wM {r:List T5} {k i:Nat} (hi:i<r.length) (aa:∀j,j<i→¬(j≠k∧(at5 r j).c0.tdiv 2=(at5 r k).c0.tdiv 2)) (h:i≠k∧(at5 r i).c0.tdiv 2=(at5 r k).c0.tdiv 2):Fe r k=i:=by
 unfold Fe;have:(BE r.length).find? (fun i=>decide (i≠k∧(at5 r i).c0.tdiv 2=(at5 r k).c0.tdiv 2))=some i:=by rw[List.find?_range_eq_some];refine⟨decide_eq_true h,BD.2 hi,fun j hj=>?_⟩;have h2:=aa j hj;rw[Bool.not_eq_true'];exact decide_eq_false h2
 rw[this];rfl
theorem wN {r:List T5} {k:Nat} (aa:∀j,j<r.length→¬(j≠k∧(at5 r j).c0.tdiv 2=(at5 r k).c0.tdiv 2)):Fe r k=k:=by
 unfold Fe;have:(BE r.length).find? (fun i=>decide (i≠k∧(at5 r i).c0.tdiv 2=(at5 r k).c0.tdiv 2))=none:=by rw[DY];intro j hj hd;exact aa j (BD.1 hj) (of_decide_eq_true hd)
 rw[this];rfl
theorem wO (p:Option Addr) (m cap:Nat) (r:List T5) (c:Aa) (hv:RV p m r c) (hm:m≤1000000) (hc:∀t∈r,0≤t.c0∧t.c0≤4398046511104) (k:Nat) (hk:k<m):CtQ AC 104 [.slice p m cap,Z9 Z8 k] [c] (Z9 Z8 (Fe r k:Int)):=by
 have hl:=hv.1;obtain⟨b,off,cs,T,fz,rfl,rfl,_,ad⟩:=(RV.rw hv).pos Es oM;have hg:∀j,j<m→cs[off+j*5]? =some (Z9 Z8 (at5 r j).c0):=fun j hj=>by have:=ad j 0 _ _ (Dx oM) rfl;rwa[B7] at this
 have hd:∀j,j<m→AL .i64 ((at5 r j).c0.tdiv 2)=(at5 r j).c0.tdiv 2:=fun j hj=>by have:=hc _ (Ws (r:=r) (k:=j) oM);have e:=CR (b:=2) this.1;rw[e];exact Ah oM
 have q0:=hg k hk;have d0:=hd k hk;refine cG func104 fun _=>?_;repeat(refine sA ?_;intros)
 refine G.loop (X:=Nat) (fun i=>i≤m∧∀j,j<i→¬(j≠k∧(at5 r j).c0.tdiv 2=(at5 r k).c0.tdiv 2)) (fun i=>[(5,Z9 Z8 i),(1,Z9 Z8 k),(0,.slice (some ⟨b,off,none⟩) m cap)])
  (fun _=>[[(b,An cs T fz)]]) (fun i=>m-i) 0 ⟨AU _,fun j hj=>absurd hj (EE j)⟩ (body:=?_)
 rintro i ⟨hi,aa⟩;by_cases ab:i<m
 ·have q1:=hg i ab;have d1:=hd i ab;by_cases ae:i=k
  ·subst ae;repeat(refine sA ?_;intros)
   refine Dn.round (i+1) ⟨ab,fun j hj h=>?_⟩ oM;by_cases ac:j=i
   ·exact h.1 ac
   ·exact aa j oM h
  ·by_cases hq:(at5 r i).c0.tdiv 2=(at5 r k).c0.tdiv 2
   ·have hb:=wM oM aa ⟨ae,hq⟩;repeat(refine sA ?_;intros)
    (refine dP [[(b,An cs T fz)]] ?_;exact⟨congrArg (Value.int .i64) oM,rfl⟩)
   ·repeat(refine sA ?_;intros)
    refine Dn.round (i+1) ⟨ab,fun j hj h=>?_⟩ oM;by_cases ac:j=i
    ·subst ac;exact hq h.2
    ·exact aa j oM h
 ·obtain rfl:i=m:=by omega
  have hb:=wN (r:=r) (k:=k) (fun j hj=>aa j oM);repeat(refine sA ?_;intros)
  (refine dP [[(b,An cs T fz)]] ?_;exact⟨congrArg (Value.int .i64) oM,rfl⟩)
structure ToX where
 i:Nat
 n:Nat
 p:Option Addr
 cap:Nat
 ch:Aa
structure TuX where
 k:Nat
 n:Nat
 p:Option Addr
 cap:Nat
 ch:Aa
theorem Cr.c0le {a f r:List T5} (A:Cr a f r) {M:Int} (hf:∀t∈f,t.c0≤M):∀t∈r,0≤t.c0∧t.c0≤2*M+1:=by intro t ht;obtain⟨k,hk,rfl⟩:=Wt ht;obtain⟨e,he,h⟩:=A.edge hk;have h1:=hf e he;have h2:=A.pos e he;rcases h with h|h<;>rw[h]<;>dsimp only<;>omega
theorem wP (pa:Option Addr) (na ka:Nat) (a:List T5) (ca:Aa) (ax:RV pa na a ca) (pf:Option Addr) (nf kf:Nat) (f:List T5) (cf:Aa) (aw:RV pf nf f cf) (hn:nf≤1000) (av:na≤1000000) (hf:∀t∈f,0≤t.c0∧t.c0≤1099511627776∧0≤t.c1∧t.c1<na) (au:(f.map (·.c0)).Nodup):Ct AC 44 [.slice pa na ka,.slice pf nf kf] [ca,cf] fun v H'=>∃p n cap c r,v= .slice p n cap∧H'=[ca,cf,c]∧n=(Jx r).length∧Vec 33 5 p n cap (flat (Jx r)) c∧Cr a f r∧r.length=2*nf:=by
 have bf:=eQ3;have hA:=wF pa na ka a ca ax pf nf kf f cf aw oM av hf;refine cG func44 fun _=>?_;repeat(first|(refine sv ?_;intros)|refine cq hBr ?_|refine cq hBe ?_)
 refine cL hA ?_;rintro _ _ ⟨q,ab,qc,r,rfl,rfl,hQ,hp,hs⟩;try dsimp only[AA,AB]
 have A:Cr a f r:=⟨hp,hs,au,fun t ht=>(hf t ht).1⟩
 have ae:RV q (2*nf) r qc:=RV.vec hQ;have ai:r.length=2*nf:=ae.1;have ay:=A.c0le (M:=1099511627776) (fun t ht=>(hf t ht).2.1);clear hQ;repeat(first|(refine sv ?_;intros)|refine cq hBr ?_|refine cq hBe ?_)
 refine G.loop (X:=ToX) (fun x=>x.i≤2*nf∧x.n=(Gp r x.i).length∧Vec 33 5 x.p x.n x.cap (flat (Gp r x.i)) x.ch)
  (fun x=>[(7,Z9 Z8 x.i),(6,.slice x.p x.n x.cap),(5,.slice q (2*nf) ab)])
  (fun x=>[ca,cf,qc,x.ch]) (fun x=>2*nf-x.i) ⟨0,0,none,0,[]⟩ ⟨AU _,rfl,Vec.nil _ _⟩ oA7 oA3 ?_
 rintro⟨i,n,p,cap,ch⟩ ⟨hi,ad,hV⟩;dsimp only at hi ad hV⊢;by_cases ag:i<2*nf;rotate_left
 ·obtain rfl:i=2*nf:=by omega
  have aj:Gp r (2*nf)=Jx r:=by unfold Jx;rw[ai]
  rw[aj] at hV ad;repeat(first|(refine sv ?_;intros)|refine cq hBr ?_|refine cq hBe ?_)
  (refine dP [ca,cf,ch] ?_;exact⟨p,n,cap,ch,r,rfl,rfl,ad,hV,A,ai⟩)
 obtain⟨b,off,cs,T,fz,rfl,rfl,ak,al⟩:=(RV.rw ae).pos Es oM;have hg:∀j k v,j<2*nf→(Ak (at5 r j))[k]? =some v→cs[off+j*5+k]? =some v:=fun j k v hj hv=>al j k _ _ (Dx oM) hv;have q1:=hg i 1 _ ag rfl;have q3:=hg i 3 _ ag rfl;have ac:=Wu r i;have az:=A.to_len (n:=i) oM;have bg:n≤4000000:=by have h1:i*r.length≤2000*2000:=Nat.mul_le_mul oM oM;omega
 by_cases aa:Fg r i=true
 ·rw[if_pos aa] at ac;have hr:=aa;unfold Fg at hr;obtain⟨bh,a0⟩:=of_decide_eq_true hr;have hq:i=0∨(0<i∧cs[off+(i-1)*5+1]? =some (Z9 Z8 (at5 r (i-1)).c1)∧(at5 r (i-1)).c1≠(at5 r i).c1):=by
   rcases Nat.eq_zero_or_pos i with hz|hz
   ·exact .inl hz
   ·exact .inr ⟨hz,hg (i-1) 1 _ oM rfl,a0 hz⟩
  obtain⟨P0,P1,P2,P3⟩:=A.per (i:=i) oM;have a1:Bz r i=(Lg r i).length:=(aW r i).symm;have hBr:∀k,k<2*nf→CtQ AC 104 [.slice (some ⟨b,off,none⟩) (2*nf) ab,Z9 Z8 k] [[(b,An cs T fz)]] (Z9 Z8 (Fe r k:Int)):=fun k hk=>wO _ _ _ r _ ae oM (fun t ht=>by have:=ay t ht;omega) k hk;have hBe:∀k,k<2*nf→CtQ AC 103 [.slice (some ⟨b,off,none⟩) (2*nf) ab,Z9 Z8 k] [[(b,An cs T fz)]] (Z9 Z8 (Gb r k:Int)):=fun k hk=>wH _ _ _ r _ ae oM k hk;have a2:∀k,k<2*nf→Fe r k<2*nf:=fun k hk=>by have:=Mz (r:=r) (k:=k) oM;omega
  have a3:∀k,itF (Aw r) k i<2*nf:=fun k=>by have:=Di (f:=Aw r) (m:=r.length) Dr (i:=i) oM k;omega
  have ei:((i:Int)-1).toNat=i-1:=oM;obtain hz|⟨hz,a4,a5⟩:=hq;all_goals
   repeat(first|(refine sv ?_;intros)|refine cq hBr ?_|refine cq hBe ?_)
   refine G.loop (X:=TuX) (fun x=>x.k≤Bz r i∧x.n=n+x.k∧Vec 33 5 x.p x.n x.cap (flat (Gp r i++(BE x.k).map (Ds r i))) x.ch)
    (fun x=>[(9,Z9 Z8 x.k),(8,Z9 Z8 (itF (Aw r) x.k i:Int)),(7,Z9 Z8 i),(6,.slice x.p x.n x.cap),(5,.slice (some ⟨b,off,none⟩) (2*nf) ab)])
    (fun x=>[ca,cf,[(b,An cs T fz)],x.ch]) (fun x=>Bz r i-x.k) ⟨0,n,p,cap,ch⟩ ⟨AU _,rfl,by simpa using hV⟩ (body:=?_)
   rintro⟨k,m,p2,am,a6⟩ ⟨hk,hm,an⟩;dsimp only at hk hm an⊢;by_cases ao:k<Bz r i
   ·have a7:k=0∨(0<k∧itF (Aw r) k i≠i):=by
     rcases Nat.eq_zero_or_pos k with h|h
     ·exact .inl h
     ·exact .inr ⟨h,P3 k h ao⟩
    have a8:=a3 k;have bi:=a2 _ a8;have c5:(cs.drop (off+itF (Aw r) k i*5)).take 5=[Z9 Z8 (at5 r (itF (Aw r) k i)).c0,Z9 Z8 (at5 r (itF (Aw r) k i)).c1,Z9 Z8 (at5 r (itF (Aw r) k i)).c2,Z9 Z8 (at5 r (itF (Aw r) k i)).c3,Z9 Z8 (at5 r (itF (Aw r) k i)).c4]:=ak _ _ (Dx oM);have bk:m+1≤maxLen:=by simp only[maxLen];omega
    have a9:flat (Gp r i++(BE (k+1)).map (Ds r i))=flat (Gp r i++(BE k).map (Ds r i))++[Z9 Z8 (at5 r (itF (Aw r) k i)).c0,Z9 Z8 (at5 r (itF (Aw r) k i)).c1,Z9 Z8 (at5 r (itF (Aw r) k i)).c2,Z9 Z8 (at5 r (itF (Aw r) k i)).c3,Z9 Z8 k]:=by rw[D2,A0,←List.append_assoc,flat_append];rfl
    obtain aq|⟨aq,bp⟩:=a7;all_goals
     repeat(first|(refine sv ?_;intros)|refine cq hBr ?_|refine cq hBe ?_)
     rename_i p' ah c' bc;have be:Vec 33 5 p' (m+1) ah (flat (Gp r i++(BE (k+1)).map (Ds r i))) c':=by rw[a9];exact bc
     refine Dn.round ⟨k+1,m+1,p',ah,c'⟩ ⟨ao,oD,be⟩ oD
   ·obtain rfl:k=Bz r i:=by omega
    have aq:Bz r i≠0:=oM;subst hm;repeat(first|(refine sv ?_;intros)|refine cq hBr ?_|refine cq hBe ?_)
    refine Dn.round ⟨i+1,n+Bz r i,p2,am,a6⟩ ⟨ag,by dsimp only;rw[ac,AH,←a1,←ad],?_⟩ oD;dsimp only;rw[ac];exact an
 ·rw[if_neg aa,AQ] at ac;have hr:¬((at5 r i).c1=(at5 r i).c3∧(0<i→(at5 r (i-1)).c1≠(at5 r i).c1)):=fun h=>aa (by unfold Fg;exact decide_eq_true h);have hq:(at5 r i).c1≠(at5 r i).c3∨((at5 r i).c1=(at5 r i).c3∧0<i∧cs[off+(i-1)*5+1]? =some (Z9 Z8 (at5 r (i-1)).c1)∧(at5 r (i-1)).c1=(at5 r i).c1):=by
   by_cases h1:(at5 r i).c1=(at5 r i).c3
   ·refine .inr ⟨h1,?_⟩;rcases Nat.eq_zero_or_pos i with hz|hz
    ·exact(hr ⟨h1,fun h=>by omega⟩).elim
    ·refine⟨hz,hg (i-1) 1 _ oM rfl,?_⟩;by_cases h2:(at5 r (i-1)).c1=(at5 r i).c1
     ·exact h2
     ·exact(hr ⟨h1,fun _=>h2⟩).elim
   ·exact .inl h1
  have ei:((i:Int)-1).toNat=i-1:=oM;obtain hz|⟨h0,hz,a4,a5⟩:=hq;all_goals
   repeat(first|(refine sv ?_;intros)|refine cq hBr ?_|refine cq hBe ?_)
   refine Dn.round ⟨i+1,n,p,cap,ch⟩ ⟨ag,by dsimp only;rw[ac,ad],by dsimp only;rw[ac];exact hV⟩ oD
end Go.Proofs.YtaofijjjheiknaaGreat
namespace Go.Gr
variable {g:Nat→Ed} {S S':Nat→Prop}
def Mn (g:Nat→Ed) (S:Nat→Prop) (v:Nat):Prop:=∀u,u<v→¬Cn g S u v
theorem Wv {p:Nat→Prop}:∀{n:Nat},p n→∃m,m≤n∧p m∧∀k,k<m→¬p k:=by
 intro n;induction n using Nat.strongRecOn with
 |ind n ih=>
  intro h;by_cases hx:∃k,k<n∧p k
  ·obtain⟨k,hk,aa⟩:=hx;obtain⟨m,hm,h1,h2⟩:=ih k hk aa;exact⟨m,oM,h1,h2⟩
  ·exact⟨n,Nat.le_refl _,h,fun k hk hp=>hx ⟨k,hk,hp⟩⟩
theorem Mn.of (g:Nat→Ed) (S:Nat→Prop) (x:Nat):∃m,m≤x∧Cn g S m x∧Mn g S m:=by obtain⟨m,h1,h2,h3⟩:=Wv (p:=fun u=>Cn g S u x) (n:=x) (.refl x);exact⟨m,h1,h2,fun u hu hc=>h3 u hu (hc.trans h2)⟩
theorem Mn.uniq {a b:Nat} (ha:Mn g S a) (hb:Mn g S b) (h:Cn g S a b):a=b:=by
 rcases Nat.lt_trichotomy a b with h1|h1|h1
 ·exact(hb a h1 h).elim
 ·exact h1
 ·exact(ha b h1 h.symm).elim
theorem Mn.le {a b:Nat} (ha:Mn g S a) (h:Cn g S a b):a≤b:=by
 rcases Nat.lt_or_ge b a with h1|h1
 ·exact(ha b h1 h.symm).elim
 ·exact h1
theorem wQ {p q:Nat→Bool} {c:Nat}:∀{n:Nat},(∀v,v<n→(q v=true↔p v=true∧v≠c))→p c=true→c<n→((List.range n).filter q).length+1=((List.range n).filter p).length:=by
 have same:∀{n:Nat},(∀v,v<n→(q v=true↔p v=true∧v≠c))→n≤c→((List.range n).filter q).length=((List.range n).filter p).length:=by intro n h hn;congr 1;refine List.filter_congr fun v hv=>?_;have h1:=List.mem_range.1 hv;have h2:=h v h1;rw[Bool.eq_iff_iff,h2];exact⟨fun h=>h.1,fun h=>⟨h,oM⟩⟩
 intro n;induction n with
 |zero=>intro _ _ h;omega
 |succ n ih=>
  intro h hc hn;rw[List.range_succ,List.filter_append,List.filter_append,List.length_append,List.length_append];by_cases aa:c=n
  ·subst aa;have h1:=same (n:=c) (fun v hv=>h v oM) (Nat.le_refl _);have h2:q c=false:=by
    cases hq:q c with
    |false=>rfl
    |true=>exact((h c oM).1 hq).2.elim rfl
   simp[h1,h2,hc]
  ·have h1:=ih (fun v hv=>h v oM) hc oM;have h2:q n=p n:=by rw[Bool.eq_iff_iff,h n oM];exact⟨fun h=>h.1,fun h=>⟨h,fun e=>aa e.symm⟩⟩
   have h3:(List.filter q [n]).length=(List.filter p [n]).length:=by simp[List.filter_cons,h2]
   omega
theorem aZ {n:Nat} (mb:Nat→Nat→Bool) (kb:Nat→Bool) (hm:∀k v,mb k v=true↔Mn g (fun j=>j<k) v) (hk:∀i,kb i=true↔¬Cn g (fun j=>j<i) (g i).1 (g i).2):∀m,(∀j,j<m→(g j).1<n∧(g j).2<n)→((List.range n).filter (mb m)).length+((List.range m).filter kb).length=n
 |0,_=>by
  have:(List.range n).filter (mb 0)=List.range n:=by rw[List.filter_eq_self];intro v _;rw[hm];intro u hu hc;have:u=v:=hc.stay (X:=fun y=>u=y) rfl (fun j hj=>absurd hj (Nat.not_lt_zero j));omega
  rw[this];simp
 |m+1,hg=>by
  have ih:=aZ mb kb hm hk m (fun j hj=>hg j oM);rw[List.range_succ,List.filter_append,List.length_append];have aa:∀{a b},Cn g (fun j=>j<m) a b→Cn g (fun j=>j<m+1) a b:=fun h=>h.mono fun i hi=>Nat.lt_succ_of_lt hi;have ac:∀{a b},Cn g (fun j=>j<m+1) a b→Cn g (fun j=>j<m∨j=m) a b:=fun h=>h.mono fun i hi=>by
   rcases Nat.lt_or_ge i m with h|h
   ·exact .inl h
   ·exact .inr oM
  by_cases hc:Cn g (fun j=>j<m) (g m).1 (g m).2
  ·have ad:kb m=false:=by
    cases h:kb m with
    |false=>rfl
    |true=>exact((hk m).1 h hc).elim
   have ae:(List.range n).filter (mb (m+1))=(List.range n).filter (mb m):=by
    refine List.filter_congr fun v _=>?_;rw[Bool.eq_iff_iff,hm,hm];refine⟨fun h u hu hx=>h u hu (aa hx),fun h u hu hx=>?_⟩;refine h u hu ((ac hx).sub fun i hi=>?_);rcases hi with hi|rfl
    ·exact Cn.edge hi
    ·exact hc
   rw[ae];simp[ad];omega
  ·have ad:kb m=true:=(hk m).2 hc;obtain⟨a,a1,a2,a3⟩:=Mn.of g (fun j=>j<m) (g m).1;obtain⟨b,b1,b2,b3⟩:=Mn.of g (fun j=>j<m) (g m).2;have ai:a≠b:=by rintro rfl;exact hc (a2.symm.trans b2)
   have aj:=hg m oM;have ab:Cn g (fun j=>j<m+1) a b:=((aa a2).trans (Cn.edge (Nat.lt_succ_self m))).trans (aa b2).symm;have ag:∀v,Mn g (fun j=>j<m+1) v↔Mn g (fun j=>j<m) v∧v≠max a b:=by
    intro v;constructor
    ·intro h;refine⟨fun u hu hx=>h u hu (aa hx),?_⟩;rintro rfl;rcases Nat.lt_or_ge a b with h1|h1
     ·refine h a oM ?_;rw[Nat.max_eq_right oM];exact ab
     ·refine h b oM ?_;rw[Nat.max_eq_left oM];exact ab.symm
    ·rintro⟨h,ah⟩ u hu hx;rcases(ac hx).add with h1|⟨h1,h2⟩|⟨h1,h2⟩
     ·exact h u hu h1
     ·have e1:=Mn.uniq b3 h (b2.trans h2);have e2:=Mn.le a3 (a2.trans h1.symm);refine ah ?_;subst e1;omega
     ·have e1:=Mn.uniq a3 h (a2.trans h2);have e2:=Mn.le b3 (b2.trans h1.symm);refine ah ?_;subst e1;omega
   have h1:=wQ (p:=mb m) (q:=mb (m+1)) (c:=max a b) (n:=n) (fun v _=>by rw[hm,hm,ag]) (by
    rw[hm];rcases Nat.lt_or_ge a b with h|h
    ·rw[Nat.max_eq_right oM];exact b3
    ·rw[Nat.max_eq_left oM];exact a3) oM
   simp[ad];omega
end Go.Gr
namespace Go.Proofs.YtaofijjjheiknaaGreat
open Go.SL Go.Tup
def edT (es:List IE):List T5:=(BE es.length).map fun (i:Nat)=>⟨(i:Int),(es.getD i (0,0)).1,(es.getD i (0,0)).2,0,0⟩
theorem Jy (es:List IE):(edT es).length=es.length:=by unfold edT;simp
theorem Ma {es:List IE} {i:Nat} {e:IE} (h:es[i]? =some e):(edT es)[i]? =some ⟨(i:Int),e.1,e.2,0,0⟩:=by have hi:=(AK.1 h).1;unfold edT;rw[BM,CO hi];simp only[DL,AP,h,Option.getD_some]
theorem wR {es:List IE} {i:Nat} {e:IE} (h:es[i]? =some e):(edT es).take (i+1)=(edT es).take i++[⟨(i:Int),e.1,e.2,0,0⟩]:=by rw[BP,Ma h];rfl
theorem Qk {es:List IE} {t:T5} (h:t∈edT es):∃(i:Nat) (e:IE),es[i]? =some e∧t=⟨(i:Int),e.1,e.2,0,0⟩:=by obtain⟨i,hi⟩:=CZ.1 h;have hl:=(AK.1 hi).1;rw[Jy] at hl;have he:es[i]? =some es[i]:=AG hl;rw[Ma he] at hi;exact⟨i,es[i],he,(BC hi).symm⟩
theorem Pd (es:List IE):(edT es).Pairwise fun a b=>a.c0<b.c0:=by unfold edT;rw[BA];exact(List.pairwise_lt_range).imp fun h=>by dsimp only;omega
open Go.Gr
theorem wS {sl:List T5} {fl:List Bool} {e:T5} (h:e∈Ba sl fl):∃t∈sl,e=⟨t.c0,t.c1,t.c2,0,0⟩:=by
 unfold Ba at h;obtain⟨⟨t,b⟩,hx,he⟩:=List.mem_filterMap.1 h;refine⟨t,(List.of_mem_zip hx).1,?_⟩;dsimp only at he;split at he
 ·exact(BC he).symm
 ·simp at he
theorem Ql:∀(sl:List T5) (fl:List Bool),((Ba sl fl).map (·.c0)).Sublist (sl.map (·.c0))
 |[],_=>by simp[Ba]
 |t::sl,[]=>by simp[Ba]
 |t::sl,b::fl=>by
  have ih:=Ql sl fl;unfold Ba at ih⊢;cases b
  ·rw[List.zip_cons_cons,List.filterMap_cons];exact ih.cons _
  ·rw[List.zip_cons_cons,List.filterMap_cons];exact ih.cons_cons _
theorem wT (sl:List T5) (fl:List Bool):(Ba sl fl).length≤sl.length:=by have:=(Ql sl fl).length_le;simpa using this
theorem edT_ok {N:Nat} {es:List IE} (hf:∀e∈es,inE N e):Ic N (edT es):=by refine⟨fun t ht=>?_,(Pd es).imp fun h=>by omega⟩;obtain⟨i,e,he,rfl⟩:=Qk ht;have:=hf e (AY he);unfold inE at this;unfold Fq;dsimp only;omega
theorem wU {es:List IE} {sl:List T5} (hp:sl.Perm (edT es)) (hs:Sn sl):sl=edT es:=by
 refine List.Perm.eq_of_pairwise (le:=fun (a b:T5)=>a.c0≤b.c0) ?_ hs ((Pd es).imp fun h=>by omega) hp;intro a b ha hb h1 h2;obtain⟨i,e,he,rfl⟩:=Qk (hp.mem_iff.1 ha);obtain⟨j,e',aa,rfl⟩:=Qk hb;dsimp only at h1 h2;obtain rfl:i=j:=by omega
 rw[he] at aa;rw[BC aa]
theorem jW (es:List IE):(edT es).map Cw=es:=by
 refine List.ext_getElem? fun i=>?_;rw[BM];cases h:es[i]? with
 |none=>rw[BY (by rw[Jy];exact List.getElem?_eq_none_iff.1 h)];rfl
 |some e=>rw[Ma h];rfl
structure Aq (N:Nat) (es:List IE) (lab:List Int) (fl:List Bool) (r b:List T5):Prop where
 labs:En (gE es) (fun i=>i<es.length) N (-1) lab
 fors:Ub es fl
 arcs:Cr (Ay lab) (Ba (edT es) fl) r
 len:r.length=2*(Ba (edT es) fl).length
 tours:b=Jx r
theorem My.parts {N:Nat} {es:List IE} {a f:List T5} (h:My N (edT es) a f):∃lab fl,a=Ay lab∧f=Ba (edT es) fl∧En (gE es) (fun i=>i<es.length) N (-1) lab∧Ub es fl:=by obtain⟨sl,fl,lab,h1,h2,h3,h4,rfl,rfl⟩:=h;obtain rfl:=wU h1 h2;rw[jW,Jy] at h3;rw[jW] at h4;exact⟨lab,fl,rfl,rfl,h3,h4⟩
open Go.Spc Go.Srt
theorem En.root {g:Nat→Ed} {S:Nat→Prop} {N:Nat} {lab:List Int} (h:En g S N (-1) lab) {v:Nat} (hv:v<N):∃x:Nat,lab[v]? =some (x:Int)∧x≤v∧Cn g S v x∧Mn g S x:=by obtain⟨x,h1,h2,h3,h4⟩:=h.at_ v hv oM;exact⟨x,h1,h3,h2,fun u hu hc=>by have:=h4 u (h2.trans hc.symm);omega⟩
theorem En.same {g:Nat→Ed} {S:Nat→Prop} {N:Nat} {lab:List Int} (h:En g S N (-1) lab) {u v:Nat} (hu:u<N) (hv:v<N) (hc:Cn g S u v):lab[u]? =lab[v]? :=by obtain⟨x,x1,_,x2,x3⟩:=h.root hu;obtain⟨y,y1,_,y2,y3⟩:=h.root hv;rw[x1,y1,x3.uniq y3 (x2.symm.trans (hc.trans y2))]
theorem En.mem {g:Nat→Ed} {S:Nat→Prop} {N:Nat} {lab:List Int} (h:En g S N (-1) lab) {x:Int} (hx:x∈lab):∃v:Nat,x=(v:Int)∧v<N∧Mn g S v:=by obtain⟨i,hi,rfl⟩:=B3.1 hx;obtain⟨v,h1,h2,_,h3⟩:=h.root (v:=i) (by rw[←h.len];exact hi);rw[AG hi] at h1;have:=h.len;exact⟨v,BC h1,oM,h3⟩
theorem Sk {lab:List Int} {v:Nat} {x:Int} (h:lab[v]? =some x):(at5 (Ay lab) v).c1=x:=by obtain⟨hv,rfl⟩:=AK.1 h;unfold at5 Ay;rw[AP,BM,CO hv];simp[AP,hv]
namespace Aq
variable {N:Nat} {es:List IE} {lab:List Int} {fl:List Bool} {r b:List T5}
theorem edge (h:Aq N es lab fl r b) {e:T5} (he:e∈Ba (edT es) fl):∃(i:Nat) (d:IE),es[i]? =some d∧fl[i]? =some true∧e=⟨(i:Int),d.1,d.2,0,0⟩:=by
 unfold Ba at he;obtain⟨⟨t,c⟩,hx,he⟩:=List.mem_filterMap.1 he;dsimp only at he;split at he
 next hc=>
  subst hc;obtain⟨i,hi⟩:=CZ.1 hx;rw[List.getElem?_zip_eq_some] at hi;have aa:=(AK.1 hi.1).1;rw[Jy] at aa;have hd:es[i]? =some es[i]:=AG aa;have h1:=hi.1;rw[Ma hd] at h1;have h2:=BC h1;subst h2;exact⟨i,es[i],hd,hi.2,(BC he).symm⟩
 next=>simp at he
theorem hl (h:Aq N es lab fl r b) (hf:∀e∈es,inE N e):∀e∈Ba (edT es) fl,(at5 (Ay lab) e.c1.toNat).c1=(at5 (Ay lab) e.c2.toNat).c1:=by
 intro e he;obtain⟨i,d,hd,_,rfl⟩:=h.edge he;have h1:=hf d (AY hd);unfold inE at h1;have hg:gE es i=(d.1.toNat,d.2.toNat):=by unfold gE;rw[hd]
 have hc:Cn (gE es) (fun i=>i<es.length) d.1.toNat d.2.toNat:=by have:=Cn.edge (g:=gE es) (S:=fun i=>i<es.length) (i:=i) (AK.1 hd).1;rwa[hg] at this
 have h2:=h.labs.same (u:=d.1.toNat) (v:=d.2.toNat) oM oM hc;obtain⟨x,hx,_⟩:=h.labs.root (v:=d.1.toNat) oM;show(at5 (Ay lab) d.1.toNat).c1=(at5 (Ay lab) d.2.toNat).c1;rw[Sk hx,Sk (h2▸hx)]
theorem tours_len (h:Aq N es lab fl r b) (hf:∀e∈es,inE N e):b.length≤2*(Ba (edT es) fl).length:=by rw[h.tours,←h.len];exact h.arcs.tours_len (h.hl hf)
theorem gE_lt (hf:∀e∈es,inE N e):∀j,j<es.length→(gE es j).1<N∧(gE es j).2<N:=by intro j hj;have hd:es[j]? =some es[j]:=AG hj;have h1:=hf _ (AY hd);unfold inE at h1;unfold gE;rw[hd];dsimp only;omega
theorem for_le (h:Aq N es lab fl r b) (hf:∀e∈es,inE N e):(Ba (edT es) fl).length≤N:=by
 classical
 have hc:=aZ (g:=gE es) (n:=N) (fun k v=>decide (Mn (gE es) (fun j=>j<k) v)) (fun i=>decide (¬Cn (gE es) (fun j=>j<i) (gE es i).1 (gE es i).2)) (fun k v=>decide_eq_true_iff) (fun i=>decide_eq_true_iff) es.length (gE_lt hf);have h2:((Ba (edT es) fl).map fun t=>t.c0.toNat).length≤((BE es.length).filter fun i=>decide (¬Cn (gE es) (fun j=>j<i) (gE es i).1 (gE es i).2)).length:=by
  refine List.Nodup.length_le_of_subset ?_ ?_
  ·refine List.Pairwise.map _ (R:=fun (a b:T5)=>a.c0<b.c0∧0≤a.c0) (fun a b h=>by omega) ?_;have hp:(Ba (edT es) fl).Pairwise fun a b=>a.c0<b.c0:=by have:=List.Pairwise.sublist (R:=fun x y:Int=>x<y) (Ql (edT es) fl) (by rw[BA];exact Pd es);rwa[BA] at this
   refine EC ?_ hp;intro a b ha _ aa;obtain⟨i,d,_,_,rfl⟩:=h.edge ha;exact⟨aa,oD⟩
  ·intro v hv;obtain⟨t,ht,rfl⟩:=AN.1 hv;obtain⟨i,d,hd,ab,rfl⟩:=h.edge ht;have hi:=(AK.1 hd).1;have hk:=(h.fors.2 i true ab).1 rfl;refine List.mem_filter.2 ⟨BD.2 oD,decide_eq_true ?_⟩;dsimp only;rw[AV];exact fun ac=>hk.2 (ac.mono fun j hj=>⟨oM,hj⟩)
 rw[AR] at h2;omega
end Aq
end Go.Proofs.YtaofijjjheiknaaGreat
