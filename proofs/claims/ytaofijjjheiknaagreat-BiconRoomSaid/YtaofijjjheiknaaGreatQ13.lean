/-
  Parts of the proof, put together (13). No condition.
-/
import Derived.Test.YtaofijjjheiknaaGreatQ12
set_option linter.unusedVariables false
set_option linter.unusedSimpArgs false
set_option linter.unnecessarySimpa false
set_option maxHeartbeats 4000000
open Bool renaming false_eq_true→CE
open Classical renaming byContradiction→BX
open Go.IntKind renaming wrap→AL
open Go.Proofs.Tryz renaming prog→AC
open Int renaming toNat_natCast→AV,toNat_of_nonneg→DK
open List renaming cons_append→AA,nil_append→AB,mem_cons_self→AE,mem_cons_of_mem→AF,getElem?_eq_getElem→AG,length_append→AH,length_cons→AJ,getElem?_eq_some_iff→AK,mem_cons→AM,mem_map→AN,length_nil→AO,getD_eq_getElem?_getD→AP,append_nil→AQ,length_map→AR,mem_append→AS,append_assoc→AT,mem_singleton→AW,flatten_cons→AX,mem_of_getElem?→AY,map_cons→AZ,flatten_append→A3,flatten_nil→A4,flatMap_cons→A7,count_append→A8,pairwise_iff_getElem→A9,pairwise_map→BA,mem_range→BD,range→BE,pairwise_cons→BF,length_take→BJ,mem_append_right→BK,getElem?_append_right→BL,getElem?_map→BM,take_add_one→BP,mem_filter→BQ,getElem?_append_left→BR,getElem?_take→BW,mem_flatMap→BZ,mem_iff_getElem→B3,pairwise_append→B8,filter_append→CD,map_nil→CG,map_map→CH,map_congr_left→CM,getElem?_range→CO,mem_iff_getElem?→CZ,getElem?_zip_eq_some→D8,take→D9
open List.Pairwise renaming nil→DH
open List.Perm renaming of_eq→DD
open Nat renaming reduceAdd→AD,le_refl→AI,zero_le→AU,le_trans→A5,lt_trichotomy→CK
open Option.some renaming inj→BC,injEq→BG
open Go.Proofs.Tryz
open Go.Value renaming int→Z9
open Go.IntKind renaming i64→Z8
namespace Go.Proofs.YtaofijjjheiknaaGreat
open Go.SL Go.Tup Go.Gr Go.Srt
theorem xJ {b:List T5} {i:Nat} (hi:i<b.length):Ko b i=true↔∃q,q<i∧(at5 b q).c2=(at5 b i).c2:=by
 unfold Ko;rw[List.any_eq_true];constructor
 ·rintro⟨t,ht,he⟩;obtain⟨q,hq,rfl⟩:=B3.1 ht;rw[BJ] at hq;have h1:=Dx (r:=b) (k:=q) oM;rw[AG oM] at h1;refine⟨q,oM,?_⟩;rw[←BC h1];have:=of_decide_eq_true he;rwa[List.getElem_take] at this
 ·rintro⟨q,hq,he⟩;refine⟨at5 b q,?_,decide_eq_true he⟩;refine AY (i:=q) ?_;rw[BW,if_pos hq];exact Dx oM
theorem xK (p:Option Addr) (m cap:Nat) (b:List T5) (c:Aa) (hv:RV p m b c) (hm:m≤1000000) (i:Nat) (hi:i<m):CtQ AC 105 [.slice p m cap,Z9 Z8 i] [c] (.bool (Ko b i)):=by
 have hl:=hv.1;have aa:=xJ (b:=b) (i:=i) oM;obtain⟨bb,off,cs,T,fz,rfl,rfl,_,ab⟩:=(RV.rw hv).pos Es oM;have hg:∀j,j<m→cs[off+j*5+2]? =some (Z9 Z8 (at5 b j).c2):=fun j hj=>ab j 2 _ _ (Dx oM) rfl;have ai:=hg i hi;refine cG func105 fun _=>?_;repeat(refine sA ?_;intros)
 refine G.loop (X:=Nat) (fun j=>j≤i∧∀q,q<j→(at5 b q).c2≠(at5 b i).c2) (fun j=>[(5,Z9 Z8 j),(0,.slice (some ⟨bb,off,none⟩) m cap),(1,Z9 Z8 i)]) (fun _=>[[(bb,An cs T fz)]]) (fun j=>i-j) 0 ⟨AU _,fun q h=>by omega⟩ (body:=?_);rintro j ⟨hj,ac⟩;by_cases ad:j<i
 ·have aj:=hg j oM;have ae:(at5 b j).c2≠(at5 b i).c2→∀q,q<j+1→(at5 b q).c2≠(at5 b i).c2:=fun ag q hq=>by
   rcases Nat.eq_or_lt_of_le (Nat.lt_succ_iff.1 hq) with rfl|h1
   ·exact ag
   ·exact ac q h1
  have ah:(at5 b j).c2=(at5 b i).c2→Ko b i=true:=fun he=>aa.2 ⟨j,ad,he⟩;generalize (at5 b j).c2=x at*;generalize (at5 b i).c2=y at*;by_cases hq:x=y
  ·rw[ah hq];repeat(refine sA ?_;intros)
   (refine dP [[(bb,An cs T fz)]] ?_;exact⟨rfl,rfl⟩)
  ·repeat(refine sA ?_;intros)
   refine Dn.round (j+1) ⟨ad,ae hq⟩ oM
 ·obtain rfl:j=i:=by omega
  have hf:Ko b j=false:=by
   cases hb:Ko b j with
   |false=>rfl
   |true=>
    obtain⟨q,hq,he⟩:=aa.1 hb;exact(ac q hq he).elim
  rw[hf];repeat(refine sA ?_;intros)
  (refine dP [[(bb,An cs T fz)]] ?_;exact⟨rfl,rfl⟩)
theorem bM:∀n,Bn n [Value.int .i64 0,Z9 Z8 0,Z9 Z8 0,Z9 Z8 0,Z9 Z8 0]=(List.replicate n T5.zero).flatMap Ak
 |0=>rfl
 |n+1=>by rw[List.replicate_succ,A7,←bM n];rfl
theorem tset (o:List T5) (i:Nat) (t:T5) (h:i<o.length):Bq (o.flatMap Ak) (i*5) [Z9 Z8 t.c0,Z9 Z8 t.c1,Z9 Z8 t.c2,Z9 Z8 t.c3,Z9 Z8 t.c4]=(o.set i t).flatMap Ak:=by have:=aL Es o i t [] h;rw[AQ,AQ] at this;exact this
theorem Qp {o:List T5} {i j:Nat} {t:T5} {v:Value} (h:o[i]? =some t) (hj:(Ak t)[j]? =some v):(o.flatMap Ak)[i*5+j]? =some v:=by have:=jJ Es h hj [];rwa[AQ] at this
theorem tset3 {o:List T5} {i:Nat} {t:T5} (h:o[i]? =some t) (x:Int):(o.flatMap Ak).set (i*5+3) (Z9 Z8 x)=(o.set i {t with c3:=x}).flatMap Ak:=by
 obtain⟨hi,rfl⟩:=AK.1 h;rw[←tset o i _ hi];have h1:=Km Es o;have h2:(i+1)*5≤o.length*5:=Nat.mul_le_mul_right _ hi;apply List.ext_getElem?;intro k;rw[Lm _ _ _ oA10];by_cases hk:k=i*5+3
 ·subst hk;rw[List.getElem?_set_self oM,AT,BL oA10,BR oA10];have:i*5+3-(D9 (i*5) (o.flatMap Ak)).length=3:=by rw[BJ];omega
  rw[this];rfl
 ·rw[List.getElem?_set_ne oM];rcases Nat.lt_or_ge k (i*5) with h3|h3
  ·rw[AT,BR oA10,BW,if_pos h3]
  ·rw[AT,BL oA10];have h4:(D9 (i*5) (o.flatMap Ak)).length=i*5:=by rw[BJ];omega
   rw[h4];rcases Nat.lt_or_ge k (i*5+5) with h5|h5
   ·rw[BR oA10];obtain⟨j,rfl⟩:∃j,k=i*5+j:=⟨k-i*5,oM⟩
    rw[Nat.add_sub_cancel_left];have hj:j=0∨j=1∨j=2∨j=4:=oM;rcases hj with rfl|rfl|rfl|rfl
    ·exact Qp h rfl
    ·exact Qp h rfl
    ·exact Qp h rfl
    ·exact Qp h rfl
   ·rw[BL oA10,List.getElem?_drop];congr 1;simp only[AJ,AO];omega
def Gj (b:List T5) (x i:Nat):List T5:=(Hi (b.take i) x).map (Dc b)
theorem xL {b:List T5} {x i:Nat} {t:T5} (h:b[i]? =some t) (aa:t.c3≠(x:Int)):Gj b x (i+1)=Gj b x i:=by unfold Gj Hi;rw[BP,h,CD];simp[aa]
theorem xM {b:List T5} {x i:Nat} {t:T5} (h:b[i]? =some t) (he:t.c3=(x:Int)):Gj b x (i+1)=Gj b x i++[Dc b t]:=by unfold Gj Hi;rw[BP,h,CD];simp[he]
theorem xN {b:List T5} {x i:Nat} {t:T5} (h:b[i]? =some t) (he:t.c3=(x:Int)):(Hi b x).map (Dc b)=Gj b x i++Dc b t::(Hi (b.drop (i+1)) x).map (Dc b):=by
 obtain⟨hi,rfl⟩:=AK.1 h;have h1:b=b.take i++b[i]::b.drop (i+1):=by rw[←List.drop_eq_getElem_cons hi,List.take_append_drop]
 unfold Gj Hi;have h2:List.filter (fun t=>decide (t.c3=(x:Int))) b=List.filter (fun t=>decide (t.c3=(x:Int))) (b.take i)++b[i]::List.filter (fun t=>decide (t.c3=(x:Int))) (b.drop (i+1)):=by
  conv=>lhs;rw[h1]
  rw[CD,List.filter_cons,if_pos (by simpa using he)]
 rw[h2,List.map_append,AZ]
def Ir (y:Nat×Fo):T5:=⟨(y.1:Int),-1,(y.1:Int),-1,((y.2.sz+1:Nat):Int)⟩
structure RtX where
 v:Nat
 n:Nat
 tl1:List (Nat×Fo)
 tl2:List (Nat×Fo)
 o:List T5
structure Jf (N:Nat) (tl:List (Nat×Fo)) (s:RtX):Prop where
 v:s.v≤N
 spl:tl=s.tl1++s.tl2
 lo:∀y∈s.tl1,y.1<s.v
 hi:∀y∈s.tl2,s.v≤y.1
 w:Wrt N (Ew tl) (Eu (vsT s.tl1)) s.o
 n:s.n=Eu (vsT s.tl1)
structure RuX where
 i:Nat
 n:Nat
 o:List T5
structure RwX where
 u:Nat
 dn:List Int
structure RfX where
 k:Int
 rest:List Int
 dn:List Int
section
variable {N:Nat} {es:List IE} {lab:List Int} {fl:List Bool} {r b:List T5} {tl:List (Nat×Fo)} {l:List T5}
theorem Am.all_is (h:Am N es lab b tl l) (hN:N≤1000000):(Eh 0 0).all (0,0) (vsT tl)=Ew tl:=bL (d:=0) (n:=0) (by have:=h.tlo.sz;omega)
theorem Am.cnt_all (h:Am N es lab b tl l) (hN:N≤1000000):Eu (vsT tl)=N:=by unfold Eu;rw[h.all_is hN,h.tabL_len]
theorem bN (a c:List (Nat×Fo)):vsT (a++c)=vsT a++vsT c:=by unfold vsT;rw[List.flatMap_append]
theorem Jf.root (h:Am N es lab b tl l) {s:RtX} (hs:Jf N tl s) (hv:lab[s.v]? =some (s.v:Int)):∃T tl2,s.tl2=(s.v,T)::tl2:=by
 have ab:s.v<N:=by rw[←h.tlo.len];exact(AK.1 hv).1
 obtain⟨y,hy,he⟩:=h.tlo.all s.v ab;rw[hv] at he;have ac:y.1=s.v:=by have:=BC he;omega
 rw[hs.spl,AS] at hy;have aa:=h.tlo.up;rw[hs.spl,B8] at aa;rcases hy with hy|hy
 ·have:=hs.lo y hy;omega
 ·match ht:s.tl2,hy with
  |z::t2,hy=>
   rw[ht] at aa;rcases AM.1 hy with rfl|hy
   ·exact⟨y.2,t2,by rw[←ac]⟩
   ·have h1:=List.rel_of_pairwise_cons aa.2.1 hy;have h2:=hs.hi z (by rw[ht];exact AE);omega
theorem Jf.skip (h:Am N es lab b tl l) {s:RtX} (hs:Jf N tl s) (ab:s.v<N) {x:Int} (hx:lab[s.v]? =some x) (aa:x≠(s.v:Int)):Jf N tl ⟨s.v+1,s.n,s.tl1,s.tl2,s.o⟩:=by
 refine⟨ab,hs.spl,fun y hy=>Nat.lt_succ_of_lt (hs.lo y hy),fun y hy=>?_,hs.w,hs.n⟩;have h1:=hs.hi y hy;have h2:=(h.tlo.tree y (by rw[hs.spl];exact BK _ hy)).root;rcases Nat.eq_or_lt_of_le h1 with h3|h3
 ·rw[←h3,hx] at h2;exact(aa (BC h2)).elim
 ·exact h3
theorem Jf.tell (h:Am N es lab b tl l) (hN:N≤1000000) {s:RtX} (hs:Jf N tl s) {T:Fo} {t2:List (Nat×Fo)} (ht:s.tl2=(s.v,T)::t2):Eu (vsT s.tl1)<N∧Eu (vsT s.tl1++[Ir (s.v,T)])=Eu (vsT s.tl1)+1∧Wrt N (Ew tl) (Eu (vsT s.tl1)+1) (s.o.set s.v ⟨(s.v:Int),-1,(Eu (vsT s.tl1):Int),0,0⟩):=by
 have e1:vsT tl=vsT s.tl1++Ir (s.v,T)::(trv s.v 0 s.v T++vsT t2):=by rw[hs.spl,bN,ht,Sq];rfl
 obtain⟨h1,e,h2,h3,h4⟩:=kQ (P:=vsT s.tl1) (Q:=trv s.v 0 s.v T++vsT t2) (v:=Ir (s.v,T)) (by show(s.v:Int)≠-1;omega);rw[←e1,h.all_is hN] at h2;obtain⟨k1,k2,w,_,k3,_,k4⟩:=h.entry h2;have k5:e.c4=0:=by
  rcases k4 with k4|⟨j,e',_,g1,g2,_⟩
  ·exact k4.2
  ·obtain⟨_,_,w',_,g3,_⟩:=h.entry g1;have:e.c1= -1:=h4;omega
 have hw:=h.wstep hs.w h2;have aa:e.c0=(s.v:Int):=h3;have ab:e.c1= -1:=h4;have e2:({e with c3:=0}:T5)=⟨(s.v:Int),-1,(Eu (vsT s.tl1):Int),0,0⟩:=by
  cases e;simp_all
 rw[e2,aa,AV] at hw;exact⟨k1,h1,hw⟩
theorem Jf.tell2 (hP:Aq N es lab fl r b) (hf:∀e∈es,inE N e) (h:Am N es lab b tl l) (hN:N≤1000000) {s:RtX} (hs:Jf N tl s) {T:Fo} {t2:List (Nat×Fo)} (ht:s.tl2=(s.v,T)::t2) {i:Nat} {t:T5} (hi:b[i]? =some t) (ab:t.c3=(s.v:Int)):let k:=Eu (vsT s.tl1++Ir (s.v,T)::Gj b s.v i)
  ((Ko b i=true∨t.c2=(s.v:Int))∧Eu (vsT s.tl1++Ir (s.v,T)::Gj b s.v (i+1))=k)∨
  (Ko b i=false∧t.c2≠(s.v:Int)∧Eu (vsT s.tl1++Ir (s.v,T)::Gj b s.v (i+1))=k+1∧k<N∧∀o,Wrt N (Ew tl) k o→
   ∃to aa:Nat,∃d:Int,to<N∧aa<N∧t.c2=(to:Int)∧t.c1=(aa:Int)∧(at5 o aa).c4=d∧0≤d∧d+1<N∧Wrt N (Ew tl) (k+1) (o.set to ⟨(to:Int),(aa:Int),(k:Int),0,d+1⟩)):=by
 intro k;have hT:=h.tlo.tree (s.v,T) (by rw[hs.spl,ht];exact BK _ AE);have ac:=hT.vis;dsimp only at ac;have e1:vsT tl=(vsT s.tl1++Ir (s.v,T)::Gj b s.v i)++Dc b t::((Hi (b.drop (i+1)) s.v).map (Dc b)++vsT t2):=by rw[hs.spl,bN,ht,Sq,←ac,xN hi ab];simp[Ir]
 have e2:vsT s.tl1++Ir (s.v,T)::Gj b s.v (i+1)=(vsT s.tl1++Ir (s.v,T)::Gj b s.v i)++[Dc b t]:=by rw[xM hi ab];simp
 rcases hP.vis_seen hf hi with⟨h1,h2⟩|⟨h1,h2,h3,h4,h5⟩
 ·left;rw[ab] at h2;exact⟨h2,by rw[e2];exact xH h1⟩
 ·right;rw[ab] at h4;obtain⟨g1,e,g2,g3,g4⟩:=kQ (P:=vsT s.tl1++Ir (s.v,T)::Gj b s.v i) (Q:=(Hi (b.drop (i+1)) s.v).map (Dc b)++vsT t2) (v:=Dc b t) (by rw[h1];exact h5);rw[←e1,h.all_is hN] at g2;obtain⟨k1,k2,w,hw,k3,ae,k4⟩:=h.entry g2;refine⟨h3,h4,by rw[e2];exact g1,k1,fun o ho=>?_⟩;rw[h1] at g3;rw[h2] at g4;obtain⟨j,e',hj,q1,q2,q3⟩:∃j e',j<k∧(Ew tl)[j]? =some e'∧e'.c0=e.c1∧e.c4=e'.c4+1:=by
   rcases k4 with k4|k4
   ·exfalso;obtain⟨i',n',ag,aj,_,rfl⟩:=hP.b_arc (AY hi);obtain⟨_,_,c1,_⟩:=hP.arc_g hf (Di (f:=Aw r) Dr ag n');have:(Ds r i' n').c1=(at5 r (itF (Aw r) n' i')).c1:=rfl;omega
   ·exact k4
  obtain⟨_,_,u,hu,q4,q5,_⟩:=h.entry q1;have ah:=h.bnd hu;rw[q5] at ah;have ai:=h.bnd hw;rw[ae] at ai;have q6:=ho.got j e' hj q1;rw[q4,AV] at q6;have q7:(at5 o u).c4=e'.c4:=by have:=Dx (r:=o) (k:=u) (by rw[ho.len];exact hu);rw[q6] at this;rw[←BC this]
  refine⟨w,u,e'.c4,hw,hu,oM,oM,q7,oM,oM,?_⟩;have ad:=h.wstep ho g2;have e3:({e with c3:=0}:T5)=⟨(w:Int),(u:Int),(k:Int),0,e'.c4+1⟩:=by show(⟨e.c0,e.c1,e.c2,0,e.c4⟩:T5)=_;rw[k3,k2,q3,←q2,q4]
  rw[e3,k3,AV] at ad;exact ad
theorem Jf.done (h:Am N es lab b tl l) {s:RtX} (hs:Jf N tl s) (ac:s.v<N) {T:Fo} {t2:List (Nat×Fo)} (ht:s.tl2=(s.v,T)::t2) {o:List T5} {m:Nat} (hm:b.length≤m) (ho:Wrt N (Ew tl) (Eu (vsT s.tl1++Ir (s.v,T)::Gj b s.v m)) o):Jf N tl ⟨s.v+1,Eu (vsT s.tl1++Ir (s.v,T)::Gj b s.v m),s.tl1++[(s.v,T)],t2,o⟩:=by
 have hT:=h.tlo.tree (s.v,T) (by rw[hs.spl,ht];exact BK _ AE);have ab:=h.tlo.up;rw[hs.spl,ht,B8,BF] at ab;have e1:vsT (s.tl1++[(s.v,T)])=vsT s.tl1++Ir (s.v,T)::Gj b s.v m:=by have aa:=hT.vis;dsimp only at aa;unfold Gj;rw[List.take_of_length_le hm,bN,Sq,aa];simp[Ir,vsT]
 refine⟨ac,by rw[hs.spl,ht,AT];rfl,fun y hy=>?_,fun y hy=>ab.2.1.1 y hy,?_,by rw[e1]⟩
 ·rcases AS.1 hy with h1|h1
  ·exact Nat.lt_succ_of_lt (hs.lo y h1)
  ·rw[AW.1 h1];exact Nat.lt_succ_self _
 ·show Wrt N (Ew tl) (Eu (vsT (s.tl1++[(s.v,T)]))) o;rw[e1];exact ho
theorem Jf.end_ (h:Am N es lab b tl l) (hN:N≤1000000) {s:RtX} (hs:Jf N tl s) (hv:s.v=N):s.o=Am.outC N l []:=by
 have h0:s.tl2=[]:=by
  cases ht:s.tl2 with
  |nil=>rfl
  |cons y t2=>
   exfalso;have hy:y∈s.tl2:=by rw[ht];exact AE
   have h1:=hs.hi y hy;have h2:=(h.tlo.tree y (by rw[hs.spl];exact BK _ hy)).root;have h3:=(AK.1 h2).1;rw[h.tlo.len] at h3;omega
 have h1:=hs.spl;rw[h0,AQ] at h1;have hw:=hs.w;rw[←h1,h.cnt_all hN] at hw;exact h.wend hw
end
theorem kW {v:T5} (hv:v.c2≠-1):∀(ts:List T5) (k:Int×Int),v∈ts→∃e∈(Eh 0 0).all k ts,e.c0=v.c2∧e.c1=v.c3
 |[],_,h=>by cases h
 |t::ts,k,h=>by
  simp only[Aj.all];rcases AM.1 h with rfl|h
  ·have ho:(Eh 0 0).outs k v=[⟨v.c2,v.c3,AL .i64 (AL .i64 (k.2+1)-1),v.c4,if v.c3= -1 then 0 else AL .i64 (k.1+1)⟩]:=if_neg hv;exact⟨_,List.mem_append_left _ (by rw[ho];exact List.mem_singleton_self _),rfl,rfl⟩
  ·obtain⟨e,he,h1⟩:=kW hv ts _ h;exact⟨e,BK _ he,h1⟩
section
variable {N:Nat} {es:List IE} {lab:List Int} {fl:List Bool} {r b:List T5} {tl:List (Nat×Fo)} {l:List T5}
theorem xO (hT:Am N es lab b tl l) (hN:N≤1000000) {v:T5} (hv:v∈vsT tl) (hd:v.c2≠-1):∃w,w<N∧v.c2=(w:Int)∧(at5 l w).c1=v.c3:=by obtain⟨e,he,h1,h2⟩:=kW hd _ (0,0) hv;rw[hT.all_is hN] at he;unfold Ew at he;obtain⟨w,hw,h3,h4⟩:=hT.of he;exact⟨w,hw,oM,by rw[h4,h2]⟩
end
section
variable {N:Nat} {es:List IE} {lab:List Int} {fl:List Bool} {r b:List T5} {tl:List (Nat×Fo)} {l:List T5}
theorem xP (hP:Aq N es lab fl r b) (hf:∀e∈es,inE N e) (hT:Am N es lab b tl l) (hN:N≤1000000) {u w:Nat} (hj:Jn (gE es) (Fs fl) u w):(at5 l w).c1=(u:Int)∨(at5 l u).c1=(w:Int):=by
 obtain⟨q,hq,q1,q2⟩:=hP.arc_at hf hj;obtain⟨i,hi,hr,hc,hR⟩:=hP.root_of hf hq;obtain⟨n,hn,he⟩:=hP.arcs.pos_of hi hR;obtain⟨x,x1,x2,_,_,x3⟩:=hP.lab_at hf hi;obtain⟨y,hy,ac⟩:=hT.tlo.all x x2;rw[x3] at ac;obtain rfl:x=y.1:=by have:=BC ac;omega
 have ad:=(hT.tlo.tree y hy).vis;have ag:∀t∈b,t.c3=(y.1:Int)→Dc b t∈vsT tl:=fun t ht hc=>by refine BZ.2 ⟨y,hy,AF _ ?_⟩;rw[←ad];exact List.mem_map_of_mem (BQ.2 ⟨ht,decide_eq_true hc⟩)
 have aa:=hP.tw hf hi;have hit:=fun n=>hP.arcs.it_lab (hP.hl hf) hi n;have ae:∀n,n<Bz r i→Ds r i n∈b∧(Ds r i n).c3=(y.1:Int)∧(Ds r i n).c4=(n:Int)∧(Ds r i n).c2=(vtA r i (n+1):Int):=fun n hn=>by refine⟨hP.arc_b hi hr hn,by rw[show(Ds r i n).c3=(at5 r i).c3 from hit n];exact x1,rfl,?_⟩;obtain⟨_,_,c1,_,c2,_⟩:=hP.arc_g hf (Di (f:=Aw r) Dr hi n);rw[hP.vt_succ hi];show(at5 r (itF (Aw r) n i)).c2=_;omega
 have ab:∀n,n<Bz r i→n<Hg r i n→(at5 l (vtA r i (n+1))).c1=(vtA r i n:Int):=fun n hn ah=>by obtain⟨a1,a2,_,_⟩:=ae n hn;have h1:=ag _ a1 a2;rw[hP.vis_at hf hi hr,if_pos ah] at h1;obtain⟨w,hw,h2,h3⟩:=xO hT hN h1 oD;dsimp only at h2 h3;rwa[show w=vtA r i (n+1) by omega] at h3
 have hu:vtA r i n=u:=by show(at5 r (itF (Aw r) n i)).c1.toNat=u;rw[he,q1,AV]
 have hw:vtA r i (n+1)=w:=by rw[hP.vt_succ hi,he,q2,AV]
 rw[←hu,←hw];by_cases ai:n<Hg r i n
 ·exact .inl (ab n hn ai)
 ·have h1:=aa.bro_lt n hn;have h2:=aa.bro_ne n hn;have h3:=aa.bro_bro n hn;have h4:=ab (Hg r i n) h1 oM;rw[aa.bro_to n hn,aa.bro_from n hn] at h4;exact .inr h4
theorem bO (hT:Am N es lab b tl l) {v p a:Nat} (hv:v<N) (h:(at5 l v).c1=(p:Int)) (hs:Sub l v a):Sub l p a:=by
 rcases hT.par hv with⟨h1,_⟩|⟨p',hp,h1,_,h2,h3,_⟩
 ·omega
 ·obtain rfl:p'=p:=by omega
  obtain⟨g1,g2⟩:=hs;exact⟨oM,oM⟩
theorem xQ (hT:Am N es lab b tl l) {a c:Nat} (ha:a<N):∀(q:Nat) {v:Nat},v<N→(at5 l v).c2≤(q:Int)→Sub l a v→Sub l v c→Sub l a c:=by
 intro q;induction q with
 |zero=>
  intro v hv hq h1 h2;rcases hT.par hv with⟨h,_⟩|⟨p,hp,h,_,h5,_⟩
  ·rw[(Kp hT ha hv h).1 h1];exact h2
  ·have:=hT.bnd hp;omega
 |succ q ih=>
  intro v hv hq h1 h2;rcases hT.par hv with⟨h,_⟩|⟨p,hp,h,_,h5,_⟩
  ·rw[(Kp hT ha hv h).1 h1];exact h2
  ·rcases(Fu hT ha hv hp h).1 h1 with rfl|h1
   ·exact h2
   ·exact ih hp oM h1 (bO hT hv h h2)
theorem Sub.tr (hT:Am N es lab b tl l) {a v c:Nat} (ha:a<N) (hv:v<N) (h1:Sub l a v) (h2:Sub l v c):Sub l a c:=xQ hT ha (at5 l v).c2.toNat hv (by have:=hT.bnd hv;omega) h1 h2
theorem kX (hP:Aq N es lab fl r b) (hT:Am N es lab b tl l):∀(q:Nat) {a v:Nat},a<N→v<N→(at5 l v).c2≤(q:Int)→Sub l a v→lab[a]? =lab[v]? :=by
 intro q;induction q with
 |zero=>
  intro a v ha hv hq hs;have h1:=hT.bnd ha;have h2:=hT.bnd hv;rw[hT.num_inj ha hv (by have:=hs.1;omega)]
 |succ q ih=>
  intro a v ha hv hq hs;rcases hT.par hv with⟨h1,_⟩|⟨p,hp,h1,_,h2,_,h3⟩
  ·rw[(Kp hT ha hv h1).1 hs]
  ·rcases(Fu hT ha hv hp h1).1 hs with rfl|hs
   ·rfl
   ·rw[ih ha hp oM hs];exact hP.labs.same hp hv (.one h3)
theorem xR (hP:Aq N es lab fl r b) (hT:Am N es lab b tl l):∀(q:Nat) {a:Nat},a<N→(at5 l a).c2≤(q:Int)→∃x:Nat,x<N∧lab[a]? =some (x:Int)∧Sub l x a:=by
 intro q;induction q with
 |zero=>
  intro a ha hq;rcases hT.par ha with⟨_,_,h⟩|⟨p,hp,h,_,h5,_⟩
  ·exact⟨a,ha,h,Hj hT ha⟩
  ·have:=hT.bnd hp;omega
 |succ q ih=>
  intro a ha hq;rcases hT.par ha with⟨_,_,h⟩|⟨p,hp,h,_,h5,_,h6⟩
  ·exact⟨a,ha,h,Hj hT ha⟩
  ·obtain⟨x,hx,h1,h2⟩:=ih hp oM;exact⟨x,hx,by rw[←hP.labs.same hp ha (.one h6)];exact h1,(Fu hT hx ha hp h).2 (.inr h2)⟩
theorem kY (hP:Aq N es lab fl r b) (hT:Am N es lab b tl l) {v a:Nat} (hv:v<N) (ha:a<N) (h:(at5 l v).c1= -1) (hl:lab[a]? =lab[v]?):Sub l v a:=by
 rcases hT.par hv with⟨_,_,h1⟩|⟨p,_,h1,_⟩
 ·obtain⟨x,hx,h2,h3⟩:=xR hP hT (at5 l a).c2.toNat ha (by have:=hT.bnd ha;omega);rw[hl,h1] at h2;obtain rfl:v=x:=by have:=BC h2;omega
  exact h3
 ·omega
end
def sideF (l:List Int) (e:IE) (v:Int):Int:=if e.1=v then l.getD e.2.toNat 0 else l.getD e.1.toNat 0
structure Pg (N:Nat) (es:List IE) (ls:List (List Int)):Prop where
 len:ls.length=N
 lab:∀(v:Nat) l,ls[v]? =some l→En (gE es) (Fa es [] v) N v l
def Bd (es:List IE) (i:Nat):IE:=es.getD i (0,0)
theorem Su {es:List IE} {i:Nat} (h:i<es.length):es[i]? =some (Bd es i):=by unfold Bd;rw[AP,AG h];rfl
theorem Qq {N:Int} {es:List IE} (hf:∀e∈es,inE N e) {i:Nat} (h:i<es.length):inE N (Bd es i):=hf _ (AY (Su h))
def Xd (ls:List (List Int)) (v:Nat):List Int:=ls.getD v []
theorem xS {ls:List (List Int)} {v:Nat} (h:v<ls.length):ls[v]? =some (Xd ls v):=by unfold Xd;rw[AP,AG h];rfl
def sdE (es:List IE) (ls:List (List Int)) (v i:Nat):Int:=sideF (Xd ls v) (Bd es i) (v:Int)
def Eb (es:List IE) (i:Nat):Prop:=(Bd es i).1≠(Bd es i).2
def bP (l:List Int) (i:Nat):Int:=l.getD i 0
def lvE (ls:List (List Int)) (v u:Nat):Int:=bP (Xd ls v) u
def Act (es:List IE) (v:Nat) (i:Nat):Prop:=Fa es [] (v:Int) i
theorem Ue {N:Nat} {es:List IE} (hf:∀e∈es,inE N e) {v i:Nat}:Act es v i↔i<es.length∧(gE es i).1≠v∧(gE es i).2≠v:=by
 unfold Act Fa;constructor
 ·rintro⟨e,he,h1,h2,_⟩;have h3:=hf e (AY he);unfold inE at h3;refine⟨(AK.1 he).1,?_⟩;unfold gE;rw[he];dsimp only;omega
 ·rintro⟨h1,h2,h3⟩;have he:es[i]? =some es[i]:=AG h1;have h4:=hf _ (List.getElem_mem h1);unfold inE at h4;unfold gE at h2 h3;rw[he] at h2 h3;dsimp only at h2 h3;exact⟨_,he,oM,oM,by simp⟩
theorem Ph {es:List IE} {i:Nat} (h:i<es.length):gE es i=((Bd es i).1.toNat,(Bd es i).2.toNat):=by unfold gE;rw[Su h]
section
variable {N m:Nat} {es:List IE} {ls:List (List Int)} {nm:List Int}
theorem Pg.lab_at (h:Pg N es ls) {v u:Nat} (hv:v<N) (hu:u<N) (aa:u≠v):∃x:Nat,lvE ls v u=(x:Int)∧Cn (gE es) (Act es v) u x∧∀w,Cn (gE es) (Act es v) u w→x≤w:=by have hl:=xS (ls:=ls) (v:=v) (by rw[h.len];exact hv);obtain⟨x,h1,h2,_,h3⟩:=(h.lab v _ hl).at_ u hu oM;refine⟨x,?_,h2,h3⟩;unfold lvE bP;rw[AP,h1];rfl
theorem Pg.lab_eq (h:Pg N es ls) {v u w:Nat} (hv:v<N) (hu:u<N) (hw:w<N) (aa:u≠v) (ab:w≠v):lvE ls v u=lvE ls v w↔Cn (gE es) (Act es v) u w:=by
 obtain⟨x,h1,h2,h3⟩:=h.lab_at hv hu aa;obtain⟨y,g1,g2,g3⟩:=h.lab_at hv hw ab;rw[h1,g1];constructor
 ·intro hq;obtain rfl:x=y:=by omega
  exact h2.trans g2.symm
 ·intro hc;have a:=h3 y (hc.trans g2);have b:=g3 x (hc.symm.trans h2);omega
def Nf (es:List IE) (i u:Nat):Prop:=(Bd es i).1=(u:Int)∨(Bd es i).2=(u:Int)
theorem Ng (h:Pg N es ls) (hf:∀e∈es,inE N e) (hm:es.length=m) {v i u:Nat} (hv:v<N) (hi:i<m) (hn:Eb es i) (hu:Nf es i u) (aa:u≠v):sdE es ls v i=lvE ls v u:=by
 have he:=Qq hf (i:=i) oM;unfold inE at he;have hg:=Ph (es:=es) (i:=i) oM;unfold Eb at hn;unfold sdE sideF lvE bP;unfold Nf at hu;by_cases h1:(Bd es i).1=(v:Int)
 ·rw[if_pos h1];rcases hu with hu|hu
  ·omega
  ·rw[hu,AV]
 ·rw[if_neg h1];rcases hu with hu|hu
  ·rw[hu,AV]
  ·have hc:Cn (gE es) (Act es v) (Bd es i).1.toNat u:=by have h2:Act es v i:=(Ue hf).2 ⟨oM,by rw[hg];dsimp only;omega,by rw[hg];dsimp only;omega⟩;have h3:=Cn.edge (g:=gE es) h2;rw[hg] at h3;dsimp only at h3;rwa[hu,AV] at h3
   exact(h.lab_eq hv oM oM oM aa).2 hc
def Sg (N:Nat) (es:List IE) (ls:List (List Int)) (i k:Nat):Prop:=∀v,v<N→sdE es ls v i=sdE es ls v k
theorem sg_of (h:Pg N es ls) (hf:∀e∈es,inE N e) (hm:es.length=m) {v i k:Nat} (hi:i<m) (hk:k<m) (ad:Eb es i) (ac:Eb es k) (ae:Nf es i v) (ab:Nf es k v) (he:sdE es ls v i=sdE es ls v k):Sg N es ls i k:=by
 intro w hw;by_cases aa:w=v
 ·subst aa;exact he
 ·rw[Ng h hf hm hw hi ad ae (fun hq=>aa hq.symm),Ng h hf hm hw hk ac ab (fun hq=>aa hq.symm)]
end
structure BcX (N:Nat) (es:List IE) (ls:List (List Int)) (lab:List Int) (fl:List Bool) (r b:List T5) (tl:List (Nat×Fo)) (l:List T5):Prop where
 ap:Pg N es ls
 inn:∀e∈es,inE N e
 parts:Aq N es lab fl r b
 tab:Am N es lab b tl l
 big:N≤1000000
def AuxP (N:Nat) (es:List IE) (fl:List Bool) (l:List T5) (u v:Nat):Prop:=
 (Adj es fl u v∧¬Sub l u v∧¬Sub l v u)∨((at5 l u).c1=(v:Int)∧(at5 l v).c1≠-1∧∃a w,a<N∧w<N∧Sub l u a∧Adj es fl a w∧¬Sub l v w)
def Cl (es:List IE) (i u v:Nat):Prop:=i<es.length∧((gE es i).1=u∧(gE es i).2=v∨(gE es i).1=v∧(gE es i).2=u)
theorem Cl.symm {es:List IE} {i u v:Nat} (h:Cl es i u v):Cl es i v u:=⟨h.1,h.2.symm⟩
namespace BcX
variable {N:Nat} {es:List IE} {ls:List (List Int)} {lab:List Int} {fl:List Bool} {r b:List T5} {tl:List (Nat×Fo)} {l:List T5} (X:BcX N es ls lab fl r b tl l)
include X
theorem end_lt {i u v:Nat} (h:Cl es i u v):u<N∧v<N:=by obtain⟨h1,h2⟩:=h;have h3:=Qq X.inn h1;unfold inE at h3;rw[Ph h1] at h2;dsimp only at h2;omega
theorem end_at {i u v:Nat} (h:Cl es i u v):Nf es i u∧Nf es i v:=by obtain⟨h1,h2⟩:=h;have h3:=Qq X.inn h1;unfold inE at h3;rw[Ph h1] at h2;dsimp only at h2;unfold Nf;omega
theorem end_ne {i u v:Nat} (h:Cl es i u v) (aa:u≠v):Eb es i:=by obtain⟨h1,h2⟩:=h;have h3:=Qq X.inn h1;unfold inE at h3;rw[Ph h1] at h2;dsimp only at h2;unfold Eb;omega
theorem end_act {i u v w:Nat} (h:Cl es i u v) (hu:u≠w) (hv:v≠w):Jn (gE es) (Act es w) u v:=
 ⟨i,(Ue X.inn).2 ⟨h.1,by rcases h.2 with⟨a,c⟩|⟨a,c⟩<;>omega,by rcases h.2 with⟨a,c⟩|⟨a,c⟩<;>omega⟩,h.2⟩
theorem end_lab {i u v:Nat} (h:Cl es i u v):lab[u]? =lab[v]? :=X.parts.labs.same (X.end_lt h).1 (X.end_lt h).2 (.one ⟨i,h.1,h.2⟩)
theorem up_in {v z:Nat} (hv:v<N) (hz:¬Sub l v z):∀(q:Nat) {a:Nat},a<N→(at5 l a).c2≤(q:Int)→Sub l v a→Cn (gE es) (Act es z) a v:=by
 have hT:=X.tab;have step:∀{a p:Nat},a<N→p<N→Jn (gE es) (fun i=>i<es.length) p a→Sub l v a→Sub l v p→Cn (gE es) (Act es z) a p:=by rintro a p ha hp ⟨i,hi,he⟩ h1 h2;exact .one (X.end_act (Cl.symm ⟨hi,he⟩) (fun h=>hz (h▸h1)) (fun h=>hz (h▸h2)))
 intro q;induction q with
 |zero=>
  intro a ha hq hs;rcases hT.par ha with⟨h,_⟩|⟨p,hp,h,_,h5,_⟩
  ·rw[(Kp hT hv ha h).1 hs];exact .refl _
  ·have:=hT.bnd hp;omega
 |succ q ih=>
  intro a ha hq hs;rcases hT.par ha with⟨h,_⟩|⟨p,hp,h,_,h5,_,h6⟩
  ·rw[(Kp hT hv ha h).1 hs];exact .refl _
  ·rcases(Fu hT hv ha hp h).1 hs with rfl|h7
   ·exact .refl _
   ·exact(step ha hp h6 hs h7).trans (ih hp oM h7)
theorem top {v z a:Nat} (hv:v<N) (ha:a<N) (hz:¬Sub l v z) (h:Sub l v a):Cn (gE es) (Act es z) a v:=X.up_in hv hz (at5 l a).c2.toNat ha (by have:=X.tab.bnd ha;omega) h
theorem up_out {v:Nat} (hv:v<N):∀(q:Nat) {a:Nat},a<N→(at5 l a).c2≤(q:Int)→¬Sub l v a→∃x:Nat,lab[a]? =some (x:Int)∧Cn (gE es) (Act es v) a x:=by
 have hT:=X.tab;intro q;induction q with
 |zero=>
  intro a ha hq hs;rcases hT.par ha with⟨_,_,h⟩|⟨p,hp,h,_,h5,_⟩
  ·exact⟨a,h,.refl _⟩
  ·have:=hT.bnd hp;omega
 |succ q ih=>
  intro a ha hq hs;rcases hT.par ha with⟨_,_,h⟩|⟨p,hp,h,_,h5,_,i,hi,h6⟩
  ·exact⟨a,h,.refl _⟩
  ·have aa:¬Sub l v p:=fun h7=>hs ((Fu hT hv ha hp h).2 (.inr h7));obtain⟨x,h8,h9⟩:=ih hp oM aa;have he:Cl es i a p:=Cl.symm ⟨hi,h6⟩;exact⟨x,by rw[X.end_lab he];exact h8,(Cn.one (X.end_act he (fun h=>hs (by rw[h];exact Hj hT hv)) (fun h=>aa (by rw[h];exact Hj hT hv)))).trans h9⟩
theorem out_cn {v a c:Nat} (hv:v<N) (ha:a<N) (hc:c<N) (h1:¬Sub l v a) (h2:¬Sub l v c) (hl:lab[a]? =lab[c]?):Cn (gE es) (Act es v) a c:=by
 obtain⟨x,e1,e2⟩:=X.up_out hv (at5 l a).c2.toNat ha (by have:=X.tab.bnd ha;omega) h1;obtain⟨y,g1,g2⟩:=X.up_out hv (at5 l c).c2.toNat hc (by have:=X.tab.bnd hc;omega) h2;rw[e1,g1] at hl;obtain rfl:x=y:=by have:=BC hl;omega
 exact e2.trans g2.symm
theorem sg_at {i k v u w:Nat} (hi:Cl es i v u) (hk:Cl es k v w) (hu:u≠v) (hw:w≠v) (h:Cn (gE es) (Act es v) u w):Sg N es ls i k:=by obtain⟨hv,aa⟩:=X.end_lt hi;have ab:=(X.end_lt hk).2;refine sg_of X.ap X.inn rfl hi.1 hk.1 (X.end_ne hi fun h=>hu h.symm) (X.end_ne hk fun h=>hw h.symm) (X.end_at hi).1 (X.end_at hk).1 ?_;rw[Ng X.ap X.inn rfl hv hi.1 (X.end_ne hi fun h=>hu h.symm) (X.end_at hi).2 hu,Ng X.ap X.inn rfl hv hk.1 (X.end_ne hk fun h=>hw h.symm) (X.end_at hk).2 hw];exact(X.ap.lab_eq hv aa ab hu hw).2 h
theorem par_not {v p:Nat} (hv:v<N) (hp:(at5 l v).c1=(p:Int)):¬Sub l v p∧p≠v∧p<N:=by
 rcases X.tab.par hv with⟨h,_⟩|⟨p',aa,h,_,h5,_⟩
 ·omega
 ·obtain rfl:p'=p:=by omega
  exact⟨fun h=>by have:=h.1;omega,fun h=>by subst h;omega,aa⟩
theorem own {i v u:Nat} (hi:Cl es i v u) (hs:¬Sub l v u):∃p:Nat,(at5 l v).c1=(p:Int)∧p<N∧∀j,Cl es j v p→Sg N es ls i j:=by
 obtain⟨hv,hu⟩:=X.end_lt hi;have hT:=X.tab;rcases hT.par hv with⟨h,_⟩|⟨p,hp,h,_,h5,h6,h7⟩
 ·exact absurd (kY X.parts hT hv hu h (X.end_lab hi).symm) hs
 ·obtain⟨h8,h9,_⟩:=X.par_not hv h;refine⟨p,h,hp,fun j hj=>X.sg_at hi hj (fun hq=>hs (by rw[hq];exact Hj hT hv)) h9 ?_⟩;exact X.out_cn hv hu hp hs h8 ((X.end_lab hi).symm.trans (X.end_lab hj))
theorem par_sg {v p i j:Nat} (hv:v<N) (hp:(at5 l v).c1=(p:Int)) (hi:Cl es i v p) (hj:Cl es j v p):Sg N es ls i j:=
 X.sg_at hi hj (X.par_not hv hp).2.1 (X.par_not hv hp).2.1 (.refl _)
theorem adj_ends {u v:Nat} (h:Adj es fl u v):∃i,Cl es i u v:=by have _:=X;obtain⟨i,e,he,_,h⟩:=h;have hi:=(AK.1 he).1;refine⟨i,hi,?_⟩;unfold gE;rw[he];dsimp only;omega
theorem aux_sg {u v:Nat} (hu:u<N) (hv:v<N) (h:AuxP N es fl l u v):∃p q:Nat,(at5 l u).c1=(p:Int)∧(at5 l v).c1=(q:Int)∧p<N∧q<N∧∀i j,Cl es i u p→Cl es j v q→Sg N es ls i j:=by
 have hT:=X.tab;rcases h with⟨h1,h2,h3⟩|⟨h1,h2,a,w,ha,hw,h3,h4,h5⟩
 ·obtain⟨i,hi⟩:=X.adj_ends h1;obtain⟨p,p1,p2,p3⟩:=X.own hi h2;obtain⟨q,q1,q2,q3⟩:=X.own hi.symm h3;exact⟨p,q,p1,q1,p2,q2,fun j k hj hk z hz=>((p3 j hj) z hz).symm.trans ((q3 k hk) z hz)⟩
 ·rcases hT.par hv with⟨h,_⟩|⟨q,hq,h,_⟩
  ·exact absurd h h2
  ·obtain⟨p1,p2,_⟩:=X.par_not hu h1;obtain⟨q1,q2,_⟩:=X.par_not hv h;refine⟨v,q,h1,h,hv,hq,fun i j hi hj=>X.sg_at hi.symm hj (fun hq=>p2 hq.symm) q2 ?_⟩;obtain⟨k,hk⟩:=X.adj_ends h4;have aa:a≠v:=fun hq=>p1 (hq▸h3);have ab:w≠v:=fun hq=>h5 (by rw[hq];exact Hj hT hv);have hl:lab[w]? =lab[q]? :=by rw[←X.end_lab hk,←X.end_lab hj,←X.end_lab hi];exact(kX X.parts hT N hu ha (by have:=hT.bnd ha;omega) h3).symm
   exact(X.top hu ha p1 h3).symm.trans ((Cn.one (X.end_act hk aa ab)).trans (X.out_cn hv hw hq h5 q1 hl))
theorem par_ed {v p:Nat} (hv:v<N) (h:(at5 l v).c1=(p:Int)):∃j,Cl es j v p:=by
 rcases X.tab.par hv with⟨h1,_⟩|⟨p',aa,h1,_,_,_,i,hi,h2⟩
 ·omega
 ·obtain rfl:p'=p:=by omega
  exact⟨i,Cl.symm ⟨hi,h2⟩⟩
theorem adj_of {i u v:Nat} (hi:Cl es i u v) (h1:(at5 l u).c1≠(v:Int)) (h2:(at5 l v).c1≠(u:Int)):Adj es fl u v:=by
 obtain⟨hl,he⟩:=hi;have aa:i<fl.length:=by rw[X.parts.fors.1];exact hl
 have hd:=Su hl;have ab:=Qq X.inn hl;unfold inE at ab;refine⟨i,Bd es i,hd,?_,?_⟩
 ·cases hb:fl[i] with
  |false=>rw[AG aa,hb]
  |true=>
   have hF:Fs fl i:=by unfold Fs;rw[AG aa,hb]
   rcases xP X.parts X.inn X.tab X.big ⟨i,hF,he⟩ with h|h
   ·exact absurd h h2
   ·exact absurd h h1
 ·rw[Ph hl] at he;dsimp only at he;omega
end BcX
theorem kZ {es:List IE} {fl:List Bool} {u v:Nat} (h:Adj es fl u v):Adj es fl v u:=
 let ⟨i,e,h1,h2,h3⟩:=h;⟨i,e,h1,h2,h3.symm⟩
structure EqX (N:Nat) (es:List IE) (ls:List (List Int)) (fl:List Bool) (l:List T5) (E:Nat→Nat→Prop):Prop where
 refl:∀a,E a a
 symm:∀{a c},E a c→E c a
 trans:∀{a c d},E a c→E c d→E a d
 aux:∀{u v},u<N→v<N→AuxP N es fl l u v→E u v
 sg:∀{u v p q:Nat},u<N→v<N→E u v→(at5 l u).c1=(p:Int)→(at5 l v).c1=(q:Int)→∀i j,Cl es i u p→Cl es j v q→Sg N es ls i j
theorem sib {N:Nat} {es:List IE} {lab:List Int} {b:List T5} {tl:List (Nat×Fo)} {l:List T5} (hT:Am N es lab b tl l) {d e w:Nat} (hd:d<N) (he:e<N) (ab:(at5 l d).c1=(w:Int)) (aa:(at5 l e).c1=(w:Int)) (hw:w<N):∀(q:Nat) {y:Nat},y<N→(at5 l y).c2≤(q:Int)→Sub l d y→Sub l e y→d=e:=by
 have key:∀{d e:Nat},d<N→e<N→(at5 l d).c1=(w:Int)→(at5 l e).c1=(w:Int)→Sub l d e→d=e:=by
  intro d e hd he ab aa h;rcases(Fu hT hd he hw aa).1 h with h|h
  ·exact h
  ·exfalso;rcases hT.par hd with⟨h1,_⟩|⟨p,_,h1,_,h2,_⟩
   ·omega
   ·obtain rfl:p=w:=by omega
    have:=h.1;omega
 intro q;induction q with
 |zero=>
  intro y hy hq h1 h2;rcases hT.par hy with⟨h,_⟩|⟨p,hp,h,_,h5,_⟩
  ·rw[(Kp hT hd hy h).1 h1,(Kp hT he hy h).1 h2]
  ·have:=hT.bnd hp;omega
 |succ q ih=>
  intro y hy hq h1 h2;rcases hT.par hy with⟨h,_⟩|⟨p,hp,h,_,h5,_⟩
  ·rw[(Kp hT hd hy h).1 h1,(Kp hT he hy h).1 h2]
  ·rcases(Fu hT hd hy hp h).1 h1 with rfl|h3
   ·exact(key he hy aa ab h2).symm
   ·rcases(Fu hT he hy hp h).1 h2 with rfl|h4
    ·exact key hd hy ab aa h1
    ·exact ih hp oM h3 h4
namespace BcX
variable {N:Nat} {es:List IE} {ls:List (List Int)} {lab:List Int} {fl:List Bool} {r b:List T5} {tl:List (Nat×Fo)} {l:List T5} (X:BcX N es ls lab fl r b tl l) {E:Nat→Nat→Prop} (Q:EqX N es ls fl l E)
include X Q
theorem climbE {c y:Nat} (hc:c<N) (hy:y<N) (hr:(at5 l c).c1≠-1) (hn:¬Sub l c y):∀(q:Nat) {v:Nat},v<N→(at5 l v).c2≤(q:Int)→Sub l c v→(∃a,a<N∧Sub l v a∧Adj es fl a y)→E v c:=by
 have hT:=X.tab;intro q;induction q with
 |zero=>
  intro v hv hq hs _;rcases hT.par hv with⟨h,_⟩|⟨p,hp,h,_,h5,_⟩
  ·rw[(Kp hT hc hv h).1 hs];exact Q.refl _
  ·have:=hT.bnd hp;omega
 |succ q ih=>
  intro v hv hq hs aa;rcases hT.par hv with⟨h,_⟩|⟨p,hp,h,_,h5,_⟩
  ·rw[(Kp hT hc hv h).1 hs];exact Q.refl _
  ·rcases(Fu hT hc hv hp h).1 hs with rfl|h6
   ·exact Q.refl _
   ·obtain⟨a,ha,h7,h8⟩:=aa;have ab:(at5 l p).c1≠-1:=fun h9=>by rw[(Kp hT hc hp h9).1 h6] at hr;exact hr h9
    exact Q.trans (Q.aux hv hp (.inr ⟨h,ab,a,y,ha,hy,h7,h8,fun h9=>hn (Sub.tr hT hc hp h6 h9)⟩)) (ih hp oM h6 ⟨a,ha,bO hT hv h h7,h8⟩)
theorem reach {w c x y:Nat} (hw:w<N) (hc:c<N) (au:(at5 l c).c1=(w:Int)) (hx:x<N) (hs:Sub l c x) (h:Cn (gE es) (Act es w) x y):y<N∧((∃d,d<N∧(at5 l d).c1=(w:Int)∧Sub l d y∧E c d)∨(¬Sub l w y∧(at5 l w).c1≠-1∧E c w)):=by
 have hT:=X.tab;have ae:∀{z:Nat},z<N→(at5 l z).c2≤((at5 l z).c2.toNat:Int):=fun hz=>by have:=hT.bnd hz;omega
 have ai:∀{d:Nat},d<N→(at5 l d).c1=(w:Int)→Sub l w d:=fun hd h=>(Fu hT hw hd hw h).2 (.inr (Hj hT hw));induction h with
 |refl=>exact⟨hx,.inl ⟨c,hc,au,hs,Q.refl _⟩⟩
 | @step y z _ hj ih=>
  obtain⟨i,hi,he⟩:=hj;have ha:=(Ue X.inn).1 hi;have hE:Cl es i y z:=⟨ha.1,he⟩
  obtain⟨hy,hz⟩:=X.end_lt hE;have az:y≠w:=by rcases he with⟨a,c⟩|⟨a,c⟩<;>omega
  have ao:z≠w:=by rcases he with⟨a,c⟩|⟨a,c⟩<;>omega
  obtain⟨_,ih⟩:=ih;refine⟨hz,?_⟩;rcases ih with⟨d,hd,ak,ad,am⟩|⟨an,aj,al⟩
  ·by_cases ag:Sub l d z
   ·exact .inl ⟨d,hd,ak,ag,am⟩
   have h1:(at5 l y).c1≠(z:Int):=fun h=>by
    rcases(Fu hT hd hy hz h).1 ad with rfl|h2
    ·omega
    ·exact ag h2
   have h2:(at5 l z).c1≠(y:Int):=fun h=>ag ((Fu hT hd hz hy h).2 (.inr ad));have aa:=X.adj_of hE h1 h2;have av:=X.climbE Q hd hz oM ag _ hy (ae hy) ad ⟨y,hy,Hj hT hy,aa⟩;by_cases ab:Sub l w z
   ·obtain⟨e,he,ah,ac⟩:=kV hT hw _ hz (ae hz) ab ao;have aq:¬Sub l e y:=fun h=>ag (by rw[sib hT hd he ak ah hw _ hy (ae hy) ad h];exact ac);have aw:=X.climbE Q he hy oM aq _ hz (ae hz) ac ⟨z,hz,Hj hT hz,kZ aa⟩;have ax:AuxP N es fl l y z:= .inl ⟨aa,fun h=>ag (Sub.tr hT hd hy ad h),fun h=>aq (Sub.tr hT he hz ac h)⟩;exact .inl ⟨e,he,ah,ac,Q.trans am (Q.trans (Q.symm av) (Q.trans (Q.aux hy hz ax) aw))⟩
   ·have aj:(at5 l w).c1≠-1:=fun h=>by refine ab (kY X.parts hT hw hz h ?_);rw[←X.end_lab hE];exact(kX X.parts hT _ hw hy (ae hy) (Sub.tr hT hw hd (ai hd ak) ad)).symm
    exact .inr ⟨ab,aj,Q.trans am (Q.aux hd hw (.inr ⟨ak,aj,y,z,hy,hz,ad,aa,ab⟩))⟩
  ·by_cases ab:Sub l w z
   ·obtain⟨e,he,ah,ac⟩:=kV hT hw _ hz (ae hz) ab ao;have ay:¬Sub l e y:=fun h=>an (Sub.tr hT hw he (ai he ah) h);have h1:(at5 l y).c1≠(z:Int):=fun h=>an ((Fu hT hw hy hz h).2 (.inr ab));have h2:(at5 l z).c1≠(y:Int):=fun h=>by
     rcases(Fu hT he hz hy h).1 ac with rfl|h3
     ·omega
     ·exact ay h3
    have aa:=X.adj_of hE.symm h2 h1;exact .inl ⟨e,he,ah,ac,Q.trans al (Q.symm (Q.aux he hw (.inr ⟨ah,aj,z,y,hz,hy,ac,aa,an⟩)))⟩
   ·exact .inr ⟨ab,aj,al⟩
theorem one_up {v w i f y z:Nat} (hv:v<N) (ab:(at5 l v).c1=(w:Int)) (hi:Cl es i v w) (hf:Cl es f y z) (ad:y≠z) (aa:y≠w) (ac:¬Sub l w y) (hs:Sg N es ls i f):E v w∧(at5 l w).c1≠-1:=by
 have hT:=X.tab;obtain⟨h1,h2,hw⟩:=X.par_not hv ab;obtain⟨hy,hz⟩:=X.end_lt hf;have h3:=hs w hw;rw[Ng X.ap X.inn rfl hw hi.1 (X.end_ne hi fun h=>h2 h.symm) (X.end_at hi).1 (fun h=>h2 h.symm),Ng X.ap X.inn rfl hw hf.1 (X.end_ne hf ad) (X.end_at hf).1 aa] at h3;have h4:=(X.ap.lab_eq hw hv hy (fun h=>h2 h.symm) aa).1 h3;obtain⟨_,⟨d,hd,ae,ag,_⟩|⟨_,h5,h6⟩⟩:=X.reach Q hw hv ab hv (Hj hT hv) h4
 ·exact absurd (Sub.tr hT hw hd ((Fu hT hw hd hw ae).2 (.inr (Hj hT hw))) ag) ac
 ·exact⟨h6,h5⟩
theorem complete:∀(q:Nat) {v u w z i j:Nat},v<N→u<N→(at5 l v).c2+(at5 l u).c2≤(q:Int)→(at5 l v).c1=(w:Int)→(at5 l u).c1=(z:Int)→Cl es i v w→Cl es j u z→Sg N es ls i j→E v u:=by
 have hT:=X.tab;have ad:∀{v u w z i j:Nat},v<N→u<N→(at5 l v).c1=(w:Int)→(at5 l u).c1=(z:Int)→Cl es i v w→Cl es j u z→Sg N es ls i j→v≠u→(Sub l u v∨¬Sub l w u)→E v w∧((at5 l w).c1≠-1):=by
  intro v u w z i j hv hu aa ab hi hj hs ae ag;obtain⟨v1,v2,hw⟩:=X.par_not hv aa;obtain⟨u1,u2,hz⟩:=X.par_not hu ab;rcases ag with h|h
  ·have h3:Sub l u w:=((Fu hT hu hv hw aa).1 h).resolve_left fun h=>ae h.symm;rcases hT.par hu with⟨h4,_⟩|⟨z',_,h4,_,h5,_⟩
   ·omega
   ·obtain rfl:z'=z:=by omega
    have h6:=h3.1;exact X.one_up Q hv aa hi hj.symm u2 (fun h=>by subst h;omega) (fun h=>by have:=h.1;omega) hs
  ·exact X.one_up Q hv aa hi hj (fun h=>u2 h.symm) (fun hq=>h (by rw[hq];exact Hj hT hw)) h hs
 intro q;induction q with
 |zero=>
  intro v u w z i j hv hu hq aa ab hi hj hs;have h1:=hT.bnd hv;have h2:=hT.bnd hu;rw[hT.num_inj hv hu oM];exact Q.refl _
 |succ q ih=>
  intro v u w z i j hv hu hq aa ab hi hj hs;by_cases ae:v=u
  ·rw[ae];exact Q.refl _
  obtain⟨v1,v2,hw⟩:=X.par_not hv aa;obtain⟨u1,u2,hz⟩:=X.par_not hu ab;have an:(at5 l w).c2<(at5 l v).c2:=by
   rcases hT.par hv with⟨h,_⟩|⟨p,_,h,_,h5,_⟩
   ·omega
   ·obtain rfl:p=w:=by omega
    exact h5
  have ao:(at5 l z).c2<(at5 l u).c2:=by
   rcases hT.par hu with⟨h,_⟩|⟨p,_,h,_,h5,_⟩
   ·omega
   ·obtain rfl:p=z:=by omega
    exact h5
  have ac:∀{a:Nat},a<N→(at5 l a).c1≠-1→∃p:Nat,(at5 l a).c1=(p:Int):=fun ha h=>by
   rcases hT.par ha with⟨h1,_⟩|⟨p,_,h1,_⟩
   ·exact absurd h1 h
   ·exact⟨p,h1⟩
  by_cases hL:Sub l u v∨¬Sub l w u
  ·obtain⟨e1,e2⟩:=ad hv hu aa ab hi hj hs ae hL;obtain⟨p,hp⟩:=ac hw e2;obtain⟨k,hk⟩:=X.par_ed hw hp;have ah:=Q.sg hv hw e1 aa hp i k hi hk;exact Q.trans e1 (ih hw hu oM hp ab hk hj fun y hy=>(ah y hy).symm.trans (hs y hy))
  by_cases hR:Sub l v u∨¬Sub l z v
  ·obtain⟨e1,e2⟩:=ad hu hv ab aa hj hi (fun y hy=>(hs y hy).symm) (fun h=>ae h.symm) hR;obtain⟨p,hp⟩:=ac hz e2;obtain⟨k,hk⟩:=X.par_ed hz hp;have ah:=Q.sg hu hz e1 ab hp j k hj hk;exact Q.trans (ih hv hz oM aa hp hi hk fun y hy=>(hs y hy).trans (ah y hy)) (Q.symm e1)
  have l1:¬Sub l u v:=fun h=>hL (.inl h);have l2:Sub l w u:=BX fun h=>hL (.inr h);have r1:¬Sub l v u:=fun h=>hR (.inl h);have r2:Sub l z v:=BX fun h=>hR (.inr h);have ai:w≠u:=fun h=>l1 (by rw[←h];exact(Fu hT hw hv hw aa).2 (.inr (Hj hT hw)));have aj:z≠v:=fun h=>r1 (by rw[←h];exact(Fu hT hz hu hz ab).2 (.inr (Hj hT hz)));have h1:Sub l w z:=((Fu hT hw hu hz ab).1 l2).resolve_left ai;have h2:Sub l z w:=((Fu hT hz hv hw aa).1 r2).resolve_left aj;obtain rfl:w=z:=hT.num_inj hw hz (by have:=h1.1;have:=h2.1;omega);have h3:=hs w hw;rw[Ng X.ap X.inn rfl hw hi.1 (X.end_ne hi fun h=>v2 h.symm) (X.end_at hi).1 (fun h=>v2 h.symm),Ng X.ap X.inn rfl hw hj.1 (X.end_ne hj fun h=>u2 h.symm) (X.end_at hj).1 (fun h=>u2 h.symm)] at h3;have h4:=(X.ap.lab_eq hw hv hu (fun h=>v2 h.symm) (fun h=>u2 h.symm)).1 h3;obtain⟨_,⟨d,hd,ak,al,am⟩|⟨h5,_⟩⟩:=X.reach Q hw hv aa hv (Hj hT hv) h4
  ·rw[←sib hT hd hu ak ab hw _ hu (by have:=hT.bnd hu;omega:(at5 l u).c2≤((at5 l u).c2.toNat:Int)) al (Hj hT hu)];exact am
  ·exact absurd l2 h5
end BcX
open Go.Spc
theorem okT4 {a b c d:Int} (ha:Av a) (hb:Av b) (hc:Av c) (hd:Av d):okT 4 ⟨a,b,c,d,0⟩:=Mq ha hb hc hd Gu oM oM oM oM oA19
def bcPF (t:T5):List T5:=[⟨t.c2,t.c1,t.c3,0,0⟩]
theorem bcP:Bw (Cq [] (bcPF)) 3 (fun _ t=>okT 5 t) 131 [] []:=mkU fun _ _ _ _ _ _ t s=>mL1 s func131 (show bcPF t=[⟨t.c2,t.c1,t.c3,0,0⟩] from rfl)
def bcEF (t:T5):List T5:=[⟨min t.c1 t.c2,max t.c1 t.c2,0,0,0⟩]
theorem bcE:Bw (Cq [] (bcEF)) 2 (fun _ t=>okT 3 t) 136 [] []:=mkU fun _ _ _ _ _ _ t s=>mL1 s func136 (show bcEF t=[⟨min t.c1 t.c2,max t.c1 t.c2,0,0,0⟩] from rfl)
theorem bcLa (p:Jp) (fa fb:Fl) (b8 b4 b5:Nat) (J:Jb) (A T:Nat) (ts:List T5) (Rl:Fl→Int→Prop) (hL:Iz p J fa fb 0 2 2 A T ts Rl):Er p J 137 [pv b8,pv b4,pv b5] (Cu p.bj b8 b4 b5 fa fb) A T none ts fun f e Hx'=>Hx'=Cu p.bj b8 b4 b5 fa fb∧Rl f e:=lM hL func137
def Lh (t:T5):List T5:=(if t.c1<AL .i64 (t.c0+t.c2) then[] else[⟨t.c0,t.c1,0,0,0⟩])
theorem bcA:Bw (Cq [] (Lh)) 2 (fun _ t=>okT 3 t) 138 [] []:=mkU fun _ _ _ _ _ _ t s=>by
 by_cases h1:t.c1<AL .i64 (t.c0+t.c2)
 ·exact mL0 s func138 (show Lh t=_ from if_pos h1)
 ·exact mL1 s func138 (show Lh t=_ from if_neg h1)
theorem bcLb (p:Jp) (fa fb:Fl) (b8 b4 b5:Nat) (J:Jb) (A T:Nat) (ts:List T5) (Rl:Fl→Int→Prop) (hL:Iz p J fa fb 0 1 2 A T ts Rl):Er p J 139 [pv b8,pv b4,pv b5] (Cu p.bj b8 b4 b5 fa fb) A T none ts fun f e Hx'=>Hx'=Cu p.bj b8 b4 b5 fa fb∧Rl f e:=lM hL func139
theorem bcLc (p:Jp) (fa fb:Fl) (b8 b4 b5:Nat) (J:Jb) (A T:Nat) (ts:List T5) (Rl:Fl→Int→Prop) (hL:Iz p J fa fb 0 2 3 A T ts Rl):Er p J 140 [pv b8,pv b4,pv b5] (Cu p.bj b8 b4 b5 fa fb) A T none ts fun f e Hx'=>Hx'=Cu p.bj b8 b4 b5 fa fb∧Rl f e:=lM hL func140
theorem bcLd (p:Jp) (fa fb:Fl) (b8 b4 b5:Nat) (J:Jb) (A T:Nat) (ts:List T5) (Rl:Fl→Int→Prop) (hL:Iz p J fa fb 1 1 4 A T ts Rl):Er p J 141 [pv b8,pv b4,pv b5] (Cu p.bj b8 b4 b5 fa fb) A T none ts fun f e Hx'=>Hx'=Cu p.bj b8 b4 b5 fa fb∧Rl f e:=lM hL func141
def Ka (t:T5):List T5:=(if t.c4= -1 then[] else[⟨t.c0,t.c1,t.c2,t.c3,0⟩])
theorem bcS:Bw (Cq [] (Ka)) 4 (fun _ t=>okT 5 t) 142 [] []:=mkU fun _ _ _ _ _ _ t s=>by
 by_cases h1:t.c4= -1
 ·exact mL0 s func142 (show Ka t=_ from if_pos h1)
 ·exact mL1 s func142 (show Ka t=_ from if_neg h1)
theorem bcLe (p:Jp) (fa fb:Fl) (b8 b4 b5:Nat) (J:Jb) (A T:Nat) (ts:List T5) (Rl:Fl→Int→Prop) (hL:Iz p J fa fb 1 2 4 A T ts Rl):Er p J 143 [pv b8,pv b4,pv b5] (Cu p.bj b8 b4 b5 fa fb) A T none ts fun f e Hx'=>Hx'=Cu p.bj b8 b4 b5 fa fb∧Rl f e:=lM hL func143
def Kq (t:T5):List T5:=(if t.c1≤t.c2 then(if t.c3<AL .i64 (t.c1+t.c4) then[] else[⟨t.c0,t.c1,0,0,0⟩]) else[⟨t.c0,t.c1,0,0,0⟩])
theorem bcO:Bw (Cq [] (Kq)) 2 (fun _ t=>okT 5 t) 144 [] []:=mkU fun _ _ _ _ _ _ t s=>by
 by_cases h1:t.c1≤t.c2
 ·by_cases h2:t.c3<AL .i64 (t.c1+t.c4)
  ·exact mL0 s func144 (show Kq t=_ from (if_pos h1).trans (if_pos h2))
  ·exact mL1 s func144 (show Kq t=_ from (if_pos h1).trans (if_neg h2))
 ·exact mL1 s func144 (show Kq t=_ from if_neg h1)
def Ex (t:T5):List T5:=(if t.c1=t.c2 then[] else[t])
theorem bcD:Bw (Cq [] (Ex)) 3 (fun _ t=>okT 3 t) 83 [] []:=mkU fun _ _ _ _ _ _ t s=>by
 by_cases h1:t.c1=t.c2
 ·exact mL0 s func83 (show Ex t=_ from if_pos h1)
 ·exact mL1 s func83 (show Ex t=_ from if_neg h1)
def bcMF (t:T5):List T5:=[⟨t.c0,max t.c1 t.c2,0,0,0⟩]
theorem bcM:Bw (Cq [] (bcMF)) 2 (fun _ t=>okT 3 t) 84 [] []:=mkU fun _ _ _ _ _ _ t s=>mL1 s func84 (show bcMF t=[⟨t.c0,max t.c1 t.c2,0,0,0⟩] from rfl)
def bcNF (t:T5):List T5:=[⟨t.c1,t.c0,0,0,0⟩]
theorem bcN:Bw (Cq [] (bcNF)) 2 (fun _ t=>okT 2 t) 155 [] []:=mkU fun _ _ _ _ _ _ t s=>mL1 s func155 (show bcNF t=[⟨t.c1,t.c0,0,0,0⟩] from rfl)
def jnM (ba:Nat):Aj Int:=⟨fun k=>[[(ba,row [Z9 Z8 k] 2)]],fun k t=>[⟨AL .i64 (k+1),t.c0,t.c1,0,0⟩],fun k _=>AL .i64 (k+1),fun _ _=>none⟩
theorem jnM_C (ba:Nat) (k:Int):(jnM ba).C k=[[(ba,row [Z9 Z8 k] 2)]]:=rfl
theorem jn_mk (ba:Nat):Bw (jnM ba) 3 (fun _ t=>okT 2 t) 135 [] [pv ba]:=by
 rintro bx Pst Br bnd hP ps X k t hX hk hb;have ab:tv t= .agg #[Z9 Z8 t.c0,Z9 Z8 t.c1,Z9 Z8 t.c2,Z9 Z8 t.c3,Z9 Z8 t.c4]:=rfl;rw[ab];unfold Im;simp only[AB,AA];show Ct _ _ _ [X,[(ba,row [Z9 Z8 k] 2)]] _;have ti:=Dp hk;have ac:ps.length+1≤bnd:=hb;have aa:=hP ps X ⟨AL .i64 (k+1),t.c0,t.c1,0,0⟩ hX (Iv (Od _) ti.1 ti.2.1) ac;rw[show tv ⟨AL .i64 (k+1),t.c0,t.c1,0,0⟩= .agg #[Z9 Z8 (AL .i64 (k+1)),Z9 Z8 t.c0,Z9 Z8 t.c1,Z9 Z8 0,Z9 Z8 0] from rfl] at aa;refine cG func135 fun _=>?_;repeat(refine sA ?_;intros)
 refine R.callV (hct:=by exact aa) (h:=?_);rintro _ _ ⟨X',rfl,⟨rfl,ad⟩|⟨rfl,hB⟩⟩
 ·repeat(refine sA ?_;intros)
  (refine dP [X',[(ba,row [Z9 Z8 (AL .i64 (k+1))] 2)]] ?_;exact⟨X',AL .i64 (k+1),rfl,.inl ⟨rfl,rfl,rfl,ad⟩⟩)
 ·repeat(refine sA ?_;intros)
  (refine dP [X',[(ba,row [Z9 Z8 (AL .i64 (k+1))] 2)]] ?_;exact⟨X',AL .i64 (k+1),rfl,.inr (.inl ⟨rfl,hB⟩)⟩)
def jnF:Nat→List T5→List T5
 |_,[]=>[]
 |i,t::ts=>⟨((i+1:Nat):Int),t.c0,t.c1,0,0⟩::jnF (i+1) ts
theorem Sv:∀(ts:List T5) (i:Nat),(jnF i ts).length=ts.length
 |[],_=>rfl
 |t::ts,i=>by simp[jnF,Sv ts]
theorem lA (ba:Nat):∀(ts:List T5) (i:Nat),i+ts.length≤1000000000→(jnM ba).all (i:Int) ts=jnF i ts
 |[],_,_=>rfl
 |t::ts,i,h=>by
  rw[AJ] at h;have e1:AL .i64 ((i:Int)+1)=((i+1:Nat):Int):=by rw[Ah oM];omega
  have ih:=lA ba ts (i+1) oM;simp only[Aj.all];rw[show(jnM ba).next (i:Int) t=((i+1:Nat):Int) from e1,ih];show[(⟨AL .i64 ((i:Int)+1),t.c0,t.c1,0,0⟩:T5)]++_=_;rw[e1];rfl
def upF (tt:List T5):List T5:=srt (ltO o1) false (Ck 2 1 tt (tt.map fun t=>⟨t.c2,t.c1,t.c3,0,0⟩))
theorem Xe (tt:List T5):(upF tt).length=tt.length:=by unfold upF;rw[(Bs _).length_eq,Ib,AR]
theorem upF_ok {tt:List T5} (h:∀t∈tt,okT 5 t):∀t∈upF tt,okT 3 t:=by intro t ht;unfold upF at ht;refine Oy h (fun t ht=>?_) 2 1 oM oM t (Io ht);obtain⟨u,hu,rfl⟩:=AN.1 ht;have ti:=Dp (h u hu);exact Iv ti.2.2.1 ti.2.1 ti.2.2.2.1
theorem xT {p:Jp} {B m k a s0:Nat} {e:Int} {er:Option Nat} {Gf:List (Fl×List T5)} {C:Aa} (hR:Rm p B m k a) (hJ:Ao p B k a s0 e er Gf C) (tf:Fl) (tt:List T5) (h1:In0 p (tf,tt)) (ag:tf.width=5) (c:Nat) (hct:tf.count≤c) (hc:c≤500) (ac:c≤B) (hT:Cf c≤m) (ht:tt.Pairwise fun a c=>a.c0<c.c0) (hk:Gf.length+3≤k) (a0:s0≤9000):Ct AC 75 [pv p.bj,flv tf] [C] fun v H'=>∃g C' e',v=flv g∧H'=[C']∧Ao p B k a (s0+4) e' er ((g,upF tt)::Gf) C'∧FB tf.count c 3 tt.length e' g∧(e'=0→e=0):=by
 have aa:=eQ0;have ah:=eQ2;have ai:tv o1= .agg #[Z9 Z8 1,Z9 Z8 0,Z9 Z8 0,Z9 Z8 0,Z9 Z8 0]:=rfl;obtain⟨t1,t2,t3,t4,t5⟩:=Kk h1;dsimp only at t1 t2 t3 t4 t5;have hp:=hR.ok;have hB:=hR.bs;have am:tf.blocks≤tf.count:=by rw[t3];exact Dl (Bh hp.size.1 t4 t5)
 rw[ag] at t2;have an:∀e,FB tf.count tf.count 5 tf.count e tf:=fun e=>⟨AI _,am,fun _=>⟨ag,rfl⟩⟩
 have ad:=fun b=>Fy hR hJ [] bcPF 3 tf.count c 1 oM 131 inferInstance [] (okT 5) bcP (fun t _=>AI _) oM tf tt (.inr h1) oM (fun _=>t2)
  (fun h=>by rw[El (f:=bcPF) (g:=fun t=>⟨t.c2,t.c1,t.c3,0,0⟩) (fun _=>rfl),AR];omega) (.inl hct) ac oM oM b
 simp only[ah] at ad;rw[El (f:=bcPF) (g:=fun t=>⟨t.c2,t.c1,t.c3,0,0⟩) (fun _=>rfl)] at ad;rw[aa tf];refine cG func75 fun _=>?_;repeat(refine sA ?_;intros)
 repeat(refine sA ?_;intros)
 refine cX (ad _) ?_;rintro _ _ ⟨g1,C1,e1,rfl,rfl,ao,aj,aq⟩;dsimp only[AA,AB];refine nx ?_;try rw[aa]
 have ay:=aj.cnt;have ak:=Tx hR ao g1 tf (tt.map fun t=>⟨t.c2,t.c1,t.c3,0,0⟩) tt Gf 1 oM aj (an e1) .here (.inr h1) oM oM oM (fun _=>ht) (fun _=>rfl) oM (.inl oM) ac hT oA12 oM;rw[aa g1,aa tf] at ak;repeat(refine sA ?_;intros)
 refine cX ak ?_;rintro _ _ ⟨g2,C2,e2,rfl,rfl,au,al,av⟩;dsimp only[AA,AB];refine nx ?_;try rw[aa]
 have az:=al.cnt;have ae:=Fp hR au g2 _ _ o1 rfl false al .here oM ac hT oM;rw[aa,ai] at ae;rw[show srt (ltO o1) false (Ck 2 1 tt (tt.map fun t=>⟨t.c2,t.c1,t.c3,0,0⟩))=upF tt from rfl] at ae;repeat(refine sA ?_;intros)
 refine cX ae ?_;rintro _ _ ⟨g3,C3,e3,rfl,rfl,aw,ab,ax⟩;dsimp only[AA,AB];refine nx ?_;try rw[aa]
 repeat(refine sA ?_;intros)
 (refine dP [C3] ?_;exact⟨g3,C3,e3,rfl,rfl,aw,⟨ab.cnt,ab.blk,fun h=>⟨(ab.ok h).1,by rw[(ab.ok h).2,Xe]⟩⟩,fun h=>aq (av (ax h))⟩)
def Li (oth up:List T5):List T5:=(srt (ltO o1) false (oth.map fun t=>⟨min t.c1 t.c2,max t.c1 t.c2,0,0,0⟩)).map (Bf up 0 2 2)
def Jg (oth up:List T5):List T5:=(Li oth up).flatMap Lh
theorem lB (t:T5):(Lh t).length≤1:=by unfold Lh;split<;>simp
theorem lC (aa up:List T5):(Li aa up).length=aa.length:=by unfold Li;rw[AR,(Bs _).length_eq,AR]
theorem bQ (aa up:List T5):(Jg aa up).length≤aa.length:=by have h:=Sf (f:=Lh) (n:=1) (Li aa up) fun t _=>lB t;rw[lC] at h;unfold Jg;omega
theorem xU {a b:Int} (h:Av a) (h2:Av b):Av (min a b):=by unfold Av at*;omega
theorem lD {a b:Int} (h:Av a) (h2:Av b):Av (max a b):=by unfold Av at*;omega
theorem xV {aa:List T5} (h:∀t∈aa,okT 3 t):∀t∈aa.map (fun t=>(⟨min t.c1 t.c2,max t.c1 t.c2,0,0,0⟩:T5)),okT 2 t:=by intro t ht;obtain⟨u,hu,rfl⟩:=AN.1 ht;have ti:=Dp (h u hu);exact Hk (xU ti.2.1 ti.2.2.1) (lD ti.2.1 ti.2.2.1)
theorem lE {aa up:List T5} (h:∀t∈aa,okT 3 t) (h2:∀t∈up,okT 3 t):∀t∈Li aa up,okT 3 t:=by intro t ht;unfold Li at ht;obtain⟨u,hu,rfl⟩:=AN.1 ht;exact Ly h2 0 2 2 oM (xV h u (Io hu))
theorem xW {aa up:List T5} (h:∀t∈aa,okT 3 t) (h2:∀t∈up,okT 3 t):∀t∈Jg aa up,okT 2 t:=by
 intro t ht;unfold Jg at ht;obtain⟨u,hu,ht⟩:=BZ.1 ht;have ti:=Dp (lE h h2 u hu);unfold Lh at ht;split at ht
 ·cases ht
 ·rw[AW] at ht;subst ht;exact Hk ti.1 ti.2.1
theorem xX {p:Jp} {B m k a s0:Nat} {e:Int} {er:Option Nat} {Gf:List (Fl×List T5)} {C:Aa} (hR:Rm p B m k a) (hJ:Ao p B k a s0 e er Gf C) (of uf:Fl) (aa up:List T5) (h1:(of,aa)∈Gf) (h2:(uf,up)∈Gf) (ae:∀t∈aa,okT 3 t) (ao:∀t∈up,okT 3 t) {b cb bu cu nu c:Nat} (hF:FB b cb 3 aa.length e of) (hU:FB bu cu 3 nu e uf) (hb:b≤c∧cb≤1000∧bu≤1000∧cu≤1000) (hc:c≤500) (ad:c≤B) (hT:Cf c≤m) (ax:e=0→up.Pairwise fun a c=>a.c0<c.c0) (hk:Gf.length+3≤k) (be:s0≤9000):Ct AC 78 [pv p.bj,flv of,flv uf] [C] fun v H'=>∃g C' e',v=flv g∧H'=[C']∧Ao p B k a (s0+4) e' er ((g,Jg aa up)::Gf) C'∧FB b c 2 (Jg aa up).length e' g∧(e'=0→e=0):=by
 have ab:=eQ0;have ac:=eQ2;have aq:tv o1= .agg #[Z9 Z8 1,Z9 Z8 0,Z9 Z8 0,Z9 Z8 0,Z9 Z8 0]:=rfl;have hB:=hR.bs;have bf:=hF.cnt;have bg:=hF.blk;have ag:=fun b1=>Fy hR hJ [] bcEF 2 of.count c 1 oM 136 inferInstance [] (okT 3) bcE (fun t _=>AI _) oM of aa (.inl h1) oM (fun _=>ae)
  (fun h=>by rw[El (f:=bcEF) (g:=fun t=>⟨min t.c1 t.c2,max t.c1 t.c2,0,0,0⟩) (fun _=>rfl),AR,(hF.ok h).2];exact AI _) (.inl oM) ad oM oM b1
 simp only[ac] at ag;rw[El (f:=bcEF) (g:=fun t=>⟨min t.c1 t.c2,max t.c1 t.c2,0,0,0⟩) (fun _=>rfl)] at ag;rw[ab of,ab uf];refine cG func78 fun _=>?_;repeat(refine sA ?_;intros)
 repeat(refine sA ?_;intros)
 refine cX (ag _) ?_;rintro _ _ ⟨g1,C1,e1,rfl,rfl,ay,au,ah⟩;dsimp only[AA,AB];refine nx ?_;try rw[ab]
 have a5:=au.cnt;have av:=Fp hR ay g1 _ _ o1 rfl false au .here oM ad hT oM;rw[ab,aq] at av;repeat(refine sA ?_;intros)
 refine cX av ?_;rintro _ _ ⟨g2,C2,e2,rfl,rfl,az,ai,aj⟩;dsimp only[AA,AB];refine nx ?_;try rw[ab]
 have a6:=ai.cnt;have a7:=ai.blk;have ak:=fun b8 b4 b5=>Kl hR az 137 inferInstance g2 uf (srt (ltO o1) false (aa.map fun t=>⟨min t.c1 t.c2,max t.c1 t.c2,0,0,0⟩)) up 0 2 2 3 c oA5 (.inl (AF _ h2)) (bcLa _ g2 uf b8 b4 b5) ai (hU.mono fun h=>ah (aj h)) oM oM oM oM oM oM
  (fun _=>Sh _) (fun h=>ax (ah (aj h))) (.inl oM) ad oA12 oM
 simp only[Cu,ac] at ak;rw[show(srt (ltO o1) false (aa.map fun t=>(⟨min t.c1 t.c2,max t.c1 t.c2,0,0,0⟩:T5))).map (Bf up 0 2 2)=Li aa up from rfl] at ak;repeat(refine sA ?_;intros)
 refine cX (ak _ _ _) ?_;rintro _ _ ⟨g3,C3,e3,rfl,rfl,a0,al,a1⟩;dsimp only[AA,AB];refine nx ?_;try rw[ab]
 have a8:=al.cnt;have a9:=al.blk;have am:=fun b1=>Fy hR a0 [] Lh 2 g3.count c 1 oM 138 inferInstance [] (okT 3) bcA (fun t _=>lB t) oM g3 (Li aa up) oA5 oM (fun _=>lE ae ao)
  (fun h=>by
   have h1:=bQ aa up;have h2:=(al.ok h).2;have h3:=lC aa up;unfold Li at h3;rw[AR] at h3;unfold Jg at h1;omega) (.inl oM) ad oA12 oM b1
 simp only[ac] at am;rw[show(Li aa up).flatMap Lh=Jg aa up from rfl] at am;repeat(refine sA ?_;intros)
 refine cX (am _) ?_;rintro _ _ ⟨g4,C4,e4,rfl,rfl,a2,an,a3⟩;dsimp only[AA,AB];refine nx ?_;try rw[ab]
 have bc:=an.cnt;have aw:=fun b1=>Ia hR a2 [(g2,srt (ltO o1) false (aa.map fun t=>⟨min t.c1 t.c2,max t.c1 t.c2,0,0,0⟩)),(g3,Li aa up)] ((g4,Jg aa up)::Gf) (.cons (.there (.there .here)) (.cons (.there .here) .nil)) oA19 _ 2 _ (Nq b1 g2 g3);simp only[ac,AZ,CG,AA,AB] at aw;repeat(refine sA ?_;intros)
 refine cX (aw _) ?_;rintro _ _ ⟨C5,rfl,rfl,a4⟩;dsimp only[AA,AB];refine nx ?_;repeat(refine sA ?_;intros)
 (refine dP [C5] ?_;exact⟨g4,C5,e4,rfl,rfl,a4,⟨oM,an.blk,an.ok⟩,fun h=>ah (aj (a1 (a3 h)))⟩)
def Nt (up lo:List T5):List T5:=(up.map (Bf lo 0 1 2)).map (Bf lo 0 2 3)
def Jh (up lo:List T5):List T5:=(srt (ltO (oK 1)) false (Nt up lo)).map (Bf up 1 1 4)
def Ji (up lo:List T5):List T5:=(Jh up lo).flatMap Ka
def Mc (up lo:List T5):List T5:=(Ji up lo).map (Bf up 1 2 4)
def Jj (up lo:List T5):List T5:=(Mc up lo).flatMap Kq
theorem lF (t:T5):(Ka t).length≤1:=by unfold Ka;split<;>simp
theorem lG (t:T5):(Kq t).length≤1:=by unfold Kq;split<;>(try split)<;>simp
theorem lH (up lo:List T5):(Jh up lo).length=up.length:=by unfold Jh Nt;rw[AR,(Bs _).length_eq,AR,AR]
theorem bR (up lo:List T5):(Ji up lo).length≤up.length:=by have h:=Sf (f:=Ka) (n:=1) (Jh up lo) fun t _=>lF t;rw[lH] at h;unfold Ji;omega
theorem bS (up lo:List T5):(Jj up lo).length≤(Ji up lo).length:=by
 have h:=Sf (f:=Kq) (n:=1) (Mc up lo) fun t _=>lG t;have h2:(Mc up lo).length=(Ji up lo).length:=by unfold Mc;rw[AR]
 unfold Jj;omega
theorem xY {up lo:List T5} (h:∀t∈up,okT 3 t) (h2:∀t∈lo,okT 3 t):∀t∈up.map (Bf lo 0 1 2),okT 3 t:=by intro t ht;obtain⟨u,hu,rfl⟩:=AN.1 ht;exact Ly h2 0 1 2 oM (h u hu)
theorem xZ {up lo:List T5} (h:∀t∈up,okT 3 t) (h2:∀t∈lo,okT 3 t):∀t∈Nt up lo,okT 4 t:=by intro t ht;unfold Nt at ht;obtain⟨u,hu,rfl⟩:=AN.1 ht;exact Ly h2 0 2 3 oM (xY h h2 u hu)
theorem lI {up lo:List T5} (h:∀t∈up,okT 3 t) (h2:∀t∈lo,okT 3 t):∀t∈Jh up lo,okT 5 t:=by intro t ht;unfold Jh at ht;obtain⟨u,hu,rfl⟩:=AN.1 ht;exact Ly h 1 1 4 oM (xZ h h2 u (Io hu))
theorem yA {up lo:List T5} (h:∀t∈up,okT 3 t) (h2:∀t∈lo,okT 3 t):∀t∈Ji up lo,okT 4 t:=by
 intro t ht;unfold Ji at ht;obtain⟨u,hu,ht⟩:=BZ.1 ht;have ti:=Dp (lI h h2 u hu);unfold Ka at ht;split at ht
 ·cases ht
 ·rw[AW] at ht;subst ht;exact okT4 ti.1 ti.2.1 ti.2.2.1 ti.2.2.2.1
theorem yB (up lo:List T5):(Ji up lo).Pairwise fun a c=>a.c1≤c.c1:=by
 have h:(Jh up lo).Pairwise fun a c=>a.c1≤c.c1:=by unfold Jh;rw[BA];exact Wm (col:=1) oM _
 unfold Ji;rw[List.pairwise_flatMap];refine⟨fun t _=>by unfold Ka;split<;>simp,h.imp fun {a c} aa x hx y hy=>?_⟩;unfold Ka at hx hy;split at hx
 ·cases hx
 ·split at hy
  ·cases hy
  ·rw[AW] at hx hy;subst hx hy;exact aa
theorem lJ {up lo:List T5} (h:∀t∈up,okT 3 t) (h2:∀t∈lo,okT 3 t):∀t∈Mc up lo,okT 5 t:=by intro t ht;unfold Mc at ht;obtain⟨u,hu,rfl⟩:=AN.1 ht;exact Ly h 1 2 4 oM (yA h h2 u hu)
theorem yC {up lo:List T5} (h:∀t∈up,okT 3 t) (h2:∀t∈lo,okT 3 t):∀t∈Jj up lo,okT 2 t:=by
 intro t ht;unfold Jj at ht;obtain⟨u,hu,ht⟩:=BZ.1 ht;have ti:=Dp (lJ h h2 u hu);unfold Kq at ht;split at ht
 ·split at ht
  ·cases ht
  ·rw[AW] at ht;subst ht;exact Hk ti.1 ti.2.1
 ·rw[AW] at ht;subst ht;exact Hk ti.1 ti.2.1
theorem yD {p:Jp} {B m k a s0:Nat} {e:Int} {er:Option Nat} {Gf:List (Fl×List T5)} {C:Aa} (hR:Rm p B m k a) (hJ:Ao p B k a s0 e er Gf C) (uf lf:Fl) (up lo:List T5) (h1:(uf,up)∈Gf) (h2:In0 p (lf,lo)) (a1:lf.width=3) (ai:∀t∈up,okT 3 t) {bu cu nu c:Nat} (hU:FB bu cu 3 nu e uf) (a8:nu=up.length) (hb:bu≤c∧cu≤1000) (c6:lf.count≤1000) (hc:c≤500) (ac:c≤B) (hT:Cf c≤m) (ah:e=0→up.Pairwise fun a c=>a.c0<c.c0) (a2:lo.Pairwise fun a c=>a.c0<c.c0) (hk:Gf.length+6≤k) (c5:s0≤9000):Ct AC 79 [pv p.bj,flv uf,flv lf] [C] fun v H'=>∃g C' e',v=flv g∧H'=[C']∧Ao p B k a (s0+7) e' er ((g,Jj up lo)::Gf) C'∧FB bu c 2 (Jj up lo).length e' g∧(e'=0→e=0):=by
 have aa:=eQ0;have ab:=eQ2;have a3:tv (oK 1)= .agg #[Z9 Z8 2,Z9 Z8 0,Z9 Z8 0,Z9 Z8 0,Z9 Z8 0]:=rfl;obtain⟨t1,t2,t3,t4,t5⟩:=Kk h2;dsimp only at t1 t2 t3 t4 t5;subst a8;have hp:=hR.ok;have hB:=hR.bs;have c7:=hU.cnt;have c8:=hU.blk;have a9:lf.blocks≤lf.count:=by rw[t3];exact Dl (Bh hp.size.1 t4 t5)
 rw[a1] at t2;have a4:∀e,FB lf.count lf.count 3 lf.count e lf:=fun e=>⟨AI _,a9,fun _=>⟨a1,rfl⟩⟩
 have a5:=fun b8 b4 b5=>Kl hR hJ 139 inferInstance uf lf up lo 0 1 2 3 c (.inl h1) (.inr h2) (bcLb _ uf lf b8 b4 b5) hU (a4 e) oM oM oM oM oM oM
  (fun h=>(ah h).imp fun {x y} hh=>Int.le_of_lt hh) (fun _=>a2) (.inl oM) ac oM oM
 simp only[Cu,ab] at a5;rw[aa uf,aa lf];refine cG func79 fun _=>?_;repeat(refine sA ?_;intros)
 repeat(refine sA ?_;intros)
 refine cX (a5 _ _ _) ?_;rintro _ _ ⟨g1,C1,e1,rfl,rfl,bc,aj,ad⟩;dsimp only[AA,AB];refine nx ?_;try rw[aa]
 have bz:=aj.cnt;have b2:=aj.blk;have ak:=fun b8 b4 b5=>Kl hR bc 140 inferInstance g1 lf (up.map (Bf lo 0 1 2)) lo 0 2 3 4 c oA5 (.inr h2) (bcLc _ g1 lf b8 b4 b5) aj (a4 e1) oM oM oM oM oM oM
  (fun h=>by rw[BA];exact(ah (ad h)).imp fun {x y} hh=>Int.le_of_lt hh) (fun _=>a2) (.inl oM) ac oA12 oM
 simp only[Cu,ab] at ak;rw[show(up.map (Bf lo 0 1 2)).map (Bf lo 0 2 3)=Nt up lo from rfl] at ak;repeat(refine sA ?_;intros)
 refine cX (ak _ _ _) ?_;rintro _ _ ⟨g2,C2,e2,rfl,rfl,be,al,ae⟩;dsimp only[AA,AB];refine nx ?_;try rw[aa]
 have b3:=al.cnt;have b6:=al.blk;have a6:=Fp hR be g2 _ _ (oK 1) (aJ oM) false al .here oM ac hT oM;rw[aa,a3] at a6;repeat(refine sA ?_;intros)
 refine cX a6 ?_;rintro _ _ ⟨g3,C3,e3,rfl,rfl,bf,am,ag⟩;dsimp only[AA,AB];refine nx ?_;try rw[aa]
 have b7:=am.cnt;have b9:=am.blk;have an:=fun b8 b4 b5=>Kl hR bf 141 inferInstance g3 uf (srt (ltO (oK 1)) false (Nt up lo)) up 1 1 4 5 c oA5 (.inl (AF _ (AF _ h1))) (bcLd _ g3 uf b8 b4 b5) am (hU.mono fun h=>ad (ae (ag h))) oM oM oM oM oM oM
  (fun _=>Wm oM _) (fun h=>ah (ad (ae (ag h)))) (.inl oM) ac oA12 oM
 simp only[Cu,ab] at an;rw[show(srt (ltO (oK 1)) false (Nt up lo)).map (Bf up 1 1 4)=Jh up lo from rfl] at an;repeat(refine sA ?_;intros)
 refine cX (an _ _ _) ?_;rintro _ _ ⟨g4,C4,e4,rfl,rfl,bg,ao,aq⟩;dsimp only[AA,AB];refine nx ?_;try rw[aa]
 have cg:=ao.cnt;have ci:=ao.blk;have au:=fun b1=>Fy hR bg [] Ka 4 g4.count c 1 oM 142 inferInstance [] (okT 5) bcS (fun t _=>lF t) oM g4 (Jh up lo) oA5 oM (fun _=>lI ai t2)
  (fun h=>by
   have h1:=bR up lo;have h2:=(ao.ok h).2;have h3:=lH up lo;unfold Jh at h3;rw[AR] at h3;unfold Ji at h1;omega) (.inl oM) ac oA12 oM b1
 simp only[ab] at au;rw[show(Jh up lo).flatMap Ka=Ji up lo from rfl] at au;repeat(refine sA ?_;intros)
 refine cX (au _) ?_;rintro _ _ ⟨g5,C5,e5,rfl,rfl,bh,av,aw⟩;dsimp only[AA,AB];refine nx ?_;try rw[aa]
 have cj:=av.cnt;have cm:=av.blk;have ax:=fun b8 b4 b5=>Kl hR bh 143 inferInstance g5 uf (Ji up lo) up 1 2 4 5 c oA5 (.inl (AF _ (AF _ (AF _ (AF _ h1))))) (bcLe _ g5 uf b8 b4 b5) av (hU.mono fun h=>ad (ae (ag (aq (aw h))))) oM oM oM oM oM oM
  (fun _=>yB up lo) (fun h=>ah (ad (ae (ag (aq (aw h)))))) (.inl oM) ac oA12 oM
 simp only[Cu,ab] at ax;rw[show(Ji up lo).map (Bf up 1 2 4)=Mc up lo from rfl] at ax;repeat(refine sA ?_;intros)
 refine cX (ax _ _ _) ?_;rintro _ _ ⟨g6,C6,e6,rfl,rfl,bi,ay,bk⟩;dsimp only[AA,AB];refine nx ?_;try rw[aa]
 have cv:=ay.cnt;have cw:=ay.blk;have az:=fun b1=>Fy hR bi [] Kq 2 g6.count c 1 oM 144 inferInstance [] (okT 5) bcO (fun t _=>lG t) oM g6 (Mc up lo) oA5 oM (fun _=>lJ ai t2)
  (fun h=>by
   have h1:=bS up lo;have h2:=(ay.ok h).2;unfold Jj at h1;omega) (.inl oM) ac oA12 oM b1
 simp only[ab] at az;rw[show(Mc up lo).flatMap Kq=Jj up lo from rfl] at az;repeat(refine sA ?_;intros)
 refine cX (az _) ?_;rintro _ _ ⟨g7,C7,e7,rfl,rfl,bp,a0,bq⟩;dsimp only[AA,AB];refine nx ?_;try rw[aa]
 have cz:=a0.cnt;have a7:=fun b1=>Ia hR bp [(g1,up.map (Bf lo 0 1 2)),(g3,srt (ltO (oK 1)) false (Nt up lo)),(g4,Jh up lo),(g5,Ji up lo),(g6,Mc up lo)] ((g7,Jj up lo)::Gf) (.cons (.there (.there (.there (.there (.there .here))))) (.cons (.there (.there (.there (.there .here)))) (.cons (.there (.there (.there .here))) (.cons (.there (.there .here)) (.cons (.there .here) .nil))))) oA19 _ 5 _ (vec5 b1 g1 g3 g4 g5 g6);simp only[ab,AZ,CG,AA,AB] at a7;repeat(refine sA ?_;intros)
 refine cX (a7 _) ?_;rintro _ _ ⟨C8,rfl,rfl,bv⟩;dsimp only[AA,AB];refine nx ?_;repeat(refine sA ?_;intros)
 (refine dP [C8] ?_;exact⟨g7,C8,e7,rfl,rfl,bv,⟨oM,a0.blk,a0.ok⟩,fun h=>ad (ae (ag (aq (aw (bk (bq h))))))⟩)
theorem yE {p:Jp} {B m k a s0:Nat} {e:Int} {er:Option Nat} {Gf:List (Fl×List T5)} {C:Aa} (hR:Rm p B m k a) (hJ:Ao p B k a s0 e er Gf C) {K:Type} (M:Aj K) (aj:∀k t,M.err k t=none) (k0:K) (width bound c κ:Nat) (ag:1≤width∧width≤5) (mk:Nat) (aa:Callable AC mk) (us:List Value) (ok:K→T5→Prop) (hM:Bw M width ok mk [] us) (hκ:∀k t,ok k t→(M.outs k t).length≤κ) (ab:κ≤5) (f0 f1:Fl) (ts vs:List T5) (hs:(f0,ts)∈Gf∨In0 p (f0,ts)) (ad:(f1,vs)∈Gf∨In0 p (f1,vs)) (h0:f0.count≤1000∧f0.blocks≤1000) (h1:f1.count≤1000∧f1.blocks≤1000) (ai:e=0→M.oks ok k0 (ts++vs)) (ah:e=0→(M.all k0 (ts++vs)).length≤bound) (hc:bound≤c∨(width≤3∧bound≤2*c)) (ac:c≤B) (hl:Gf.length+1≤k) (ae:s0≤10000) (b:Nat):Ct AC 52 [pv p.bj,Z9 Z8 width,Z9 Z8 bound,.func (.func mk) #[] us.toArray,.slice (some ⟨b,0,none⟩) 2 2] (C::[(b,row (fl4 f0++fl4 f1) 42)]::M.C k0) fun v H'=> ∃f C' e' k',v=flv f∧H'=C'::[(b,row (fl4 f0++fl4 f1) 42)]::M.C k'∧Ao p B k a (s0+1) e' er ((f,M.all k0 (ts++vs))::Gf) C'∧FB bound c width (M.all k0 (ts++vs)).length e' f∧(e'=0→e=0):=by
 have h:=aF hR hJ M k0 width bound c κ ag mk aa us ok hM hκ ab [(f0,ts),(f1,vs)] (by simpa using⟨hs,ad⟩) (by simpa using⟨h0,h1⟩) oA19 _ 2 _ (Nq b f0 f1);rw[iP] at h;refine(h ai ah hc ac hl ae).mono ?_;rintro v H' ⟨f,C',e',k',h1,h2,h3,h4,h5⟩;rw[Aj.bad_none aj,Ms] at h3;exact⟨f,C',e',k',h1,h2,h3,h4,fun h=>(h5 h).1⟩
theorem yF {p:Jp} {B m k a s0:Nat} {e:Int} {er:Option Nat} {Gf:List (Fl×List T5)} {C:Aa} (hR:Rm p B m k a) (hJ:Ao p B k a s0 e er Gf C) (fa fb:Fl) (ab aa:List T5) (h1:(fa,ab)∈Gf) (h2:(fb,aa)∈Gf) (ak:∀t∈ab,okT 2 t) (al:∀t∈aa,okT 2 t) (aq:ab.length+aa.length≤1000000) {ba ca bb cb c:Nat} (hA:FB ba ca 2 ab.length e fa) (ae:FB bb cb 2 aa.length e fb) (hb:ba+bb≤2*c∧ca≤1000∧cb≤1000) (hc:c≤500) (aj:c≤B) (hk:Gf.length+1≤k) (av:s0≤9000):Ct AC 77 [pv p.bj,flv fa,flv fb] [C] fun v H'=>∃g C' e',v=flv g∧H'=[C']∧Ao p B k a (s0+1) e' er ((g,jnF 0 (ab++aa))::Gf) C'∧FB (ba+bb) c 3 (ab.length+aa.length) e' g∧(e'=0→e=0):=by
 have ac:=eQ0;have ah:=eQ2;have aw:=hA.cnt;have ax:=hA.blk;have ay:=ae.cnt;have az:=ae.blk;have e1:AL .i64 ((fa.count:Int)+(fb.count:Int))=((fa.count+fb.count:Nat):Int):=by rw[Ah oM];omega
 have ad:∀bn,(jnM bn).all 0 (ab++aa)=jnF 0 (ab++aa):=fun bn=>lA bn _ 0 (by rw[AH];omega);have ai:=fun bn b1=>yE hR hJ (jnM bn) (fun _ _=>rfl) 0 3 (fa.count+fb.count) c 1 oM 135 inferInstance [pv bn] _ (jn_mk bn) (fun _ t _=>AI _) oM fa fb ab aa (.inl h1) (.inl h2) oM oM
  (fun _=>Aj.oks_of (M:=jnM bn) (I:=fun _=>True) (Q:=okT 2) (fun _ t _ h=>⟨h,trivial⟩) _ _ trivial (fun t ht=>(AS.1 ht).elim (ak t) (al t)))
  (fun h=>by rw[ad bn,Sv,AH,←(hA.ok h).2,←(ae.ok h).2];exact AI _) (.inr ⟨oM,oM⟩) aj oM oM b1
 simp only[ah,jnM_C,ad,Sv,AH,AA,AB] at ai;rw[ac fa,ac fb];refine cG func77 fun _=>?_;repeat(refine sA ?_;intros)
 refine cX (ai _ _) ?_;rintro _ _ ⟨f1,C1,am,k1,rfl,rfl,an,ag,ao⟩;dsimp only[AA,AB];refine nx ?_;try rw[ac]
 have au:=ag.cnt;repeat(refine sA ?_;intros)
 (refine dP [C1] ?_;exact⟨f1,C1,am,rfl,rfl,an,⟨oM,ag.blk,ag.ok⟩,ao⟩)
def Md (fs:List T5):List T5:=srt (ltO o1) true (srt (ltO o12) false (fs.map fun t=>⟨t.c1,t.c0,0,0,0⟩))
def Nu (fs:List T5):List T5:=srt (ltO o1) false (Ck 1 1 (Md fs) fs)
theorem Uf (fs:List T5):(Nu fs).length=fs.length:=by unfold Nu;rw[(Bs _).length_eq,Ib]
theorem yG {p:Jp} {B m k a s0:Nat} {e:Int} {er:Option Nat} {Gf:List (Fl×List T5)} {C:Aa} (hR:Rm p B m k a) (ff:Fl) (fs:List T5) (hJ:Ao p B k a s0 e er ((ff,fs)::Gf) C) (ay:∀t∈fs,okT 2 t) {b c:Nat} (hF:FB b c 2 fs.length e ff) (hb:b≤c) (hc:c≤500) (ab:c≤B) (hT:Cf c≤m) (hk:Gf.length+4≤k) (bf:s0≤9000):Ct AC 85 [pv p.bj,flv ff] [C] fun v H'=>∃g C' e',v=flv g∧H'=[C']∧Ao p B k a (s0+6) e' er ((g,Nu fs)::Gf) C'∧FB b c 2 fs.length e' g∧(e'=0→e=0):=by
 have aa:=eQ0;have ad:=eQ2;have ae:tv o1= .agg #[Z9 Z8 1,Z9 Z8 0,Z9 Z8 0,Z9 Z8 0,Z9 Z8 0]:=rfl;have ag:tv o12= .agg #[Z9 Z8 1,Z9 Z8 2,Z9 Z8 0,Z9 Z8 0,Z9 Z8 0]:=rfl;have hB:=hR.bs;have bg:=hF.cnt;have bh:=hF.blk;have ah:=fun b1=>Fy hR hJ [] bcNF 2 ff.count c 1 oM 155 inferInstance [] (okT 2) bcN (fun t _=>AI _) oM ff fs oA5 oM (fun _=>ay)
  (fun h=>by rw[El (f:=bcNF) (g:=fun t=>⟨t.c1,t.c0,0,0,0⟩) (fun _=>rfl),AR,(hF.ok h).2];exact AI _) (.inl oM) ab oA12 oM b1
 simp only[ad] at ah;rw[El (f:=bcNF) (g:=fun t=>⟨t.c1,t.c0,0,0,0⟩) (fun _=>rfl)] at ah;rw[aa ff];refine cG func85 fun _=>?_;repeat(refine sA ?_;intros)
 repeat(refine sA ?_;intros)
 refine cX (ah _) ?_;rintro _ _ ⟨g1,C1,e1,rfl,rfl,az,al,am⟩;dsimp only[AA,AB];refine nx ?_;try rw[aa]
 have a7:=al.cnt;have an:=Fp hR az g1 _ _ o12 rfl false al .here oM ab hT oM;rw[aa,ag] at an;repeat(refine sA ?_;intros)
 refine cX an ?_;rintro _ _ ⟨g2,C2,e2,rfl,rfl,a0,ao,aq⟩;dsimp only[AA,AB];refine nx ?_;try rw[aa]
 have a8:=ao.cnt;have ai:=Fp hR a0 g2 _ _ o1 rfl true ao .here oM ab hT oM;rw[aa,ae] at ai;rw[show srt (ltO o1) true (srt (ltO o12) false (fs.map fun t=>⟨t.c1,t.c0,0,0,0⟩))=Md fs from rfl] at ai;repeat(refine sA ?_;intros)
 refine cX ai ?_;rintro _ _ ⟨g3,C3,e3,rfl,rfl,a1,aj,au⟩;dsimp only[AA,AB];refine nx ?_;try rw[aa]
 have a9:=aj.cnt;have bc:=aj.blk;have av:=jC hR a1 ff g3 fs (Md fs) ((g3,Md fs)::Gf) 1 oM (hF.mono fun h=>am (aq (au h))) aj (.there .here) (.inl AE) oM oM oM (fun _=>Ox _) (fun _=>rfl) oM (.inl oM) ab hT oA12 oM;rw[aa ff,aa g3] at av;repeat(refine sA ?_;intros)
 refine cX av ?_;rintro _ _ ⟨g4,C4,e4,rfl,rfl,a2,aw,a3⟩;dsimp only[AA,AB];refine nx ?_;try rw[aa]
 have be:=aw.cnt;have ak:=Fp hR a2 g4 _ _ o1 rfl false aw .here oM ab hT oM;rw[aa,ae] at ak;rw[show srt (ltO o1) false (Ck 1 1 (Md fs) fs)=Nu fs from rfl] at ak;repeat(refine sA ?_;intros)
 refine cX ak ?_;rintro _ _ ⟨g5,C5,e5,rfl,rfl,a4,ac,a5⟩;dsimp only[AA,AB];refine nx ?_;try rw[aa]
 have ax:=fun b1=>Ia hR a4 [(g3,Md fs)] ((g5,Nu fs)::Gf) (.cons (.there .here) .nil) oA19 _ 1 _ (Mr b1 g3);simp only[ad,AZ,CG,AA,AB] at ax;repeat(refine sA ?_;intros)
 refine cX (ax _) ?_;rintro _ _ ⟨C6,rfl,rfl,a6⟩;dsimp only[AA,AB];refine nx ?_;repeat(refine sA ?_;intros)
 (refine dP [C6] ?_;exact⟨g5,C6,e5,rfl,rfl,a6,⟨ac.cnt,ac.blk,fun h=>⟨(ac.ok h).1,by rw[(ac.ok h).2,Uf]⟩⟩,fun h=>am (aq (au (a3 (a5 h))))⟩)
structure EachN where
 i:Nat
theorem yH (bw bd ba bs:Nat) (W:Wk) (cd ca cs:Aa) (h:Wc bd ba bs W cd ca cs) (width bound:Nat) (al:1≤width) (ae:width≤5) (ay:bound≤100000000) (hr:2*W.δ.size≤W.α.room-W.α.used) (bc:W.δ.acts≤10000000000):Ct AC 116 [pv bw,Z9 Z8 width,Z9 Z8 bound,.nilFunc,.slice none 0 0] [Ab bw bd ba bs,cd,ca,cs] fun v H'=> ∃cd' ca' cs' W',H'=[Ab bw bd ba bs,cd',ca',cs']∧Wc bd ba bs W' cd' ca' cs'∧Ev W W' 1 (Ac W.δ.size width bound)∧W'.α.gs.Perm W.α.gs∧Ap W.live W W'∧((∃f,v= .tuple #[flv f,Z9 Z8 0]∧W'.live.Perm (Az f W.live)∧f.width=width∧f.count=0∧Be W'.δ.disk W.δ.size [f.ext] f [])∨ (∃e:Int,v= .tuple #[flv ⟨0,0,0,0⟩,Z9 Z8 e]∧e≠0∧W'.live.Perm W.live∧((e=6∧W.δ.fault≠-1)∨(e=5∧big W.σ.free<Ac W.δ.size width bound)))):=by
 obtain⟨⟨az,be⟩,_⟩:=h.dev.num;have hh:=Bh az al ae;have a0:=Om bw bd ba bs W cd ca cs h width bound al ae ay oM;have hz:=eQ1;refine Ct.introD func116 rfl ntmps116 (nle rfl) fun _=>?_;dsimp only[Cy,AD];repeat(refine sA ?_;intros)
 apply R.call
 ·exact rfl
 ·exact a0
 ·exact oA4
 ·exact rfl
 ·exact nle rfl
 rintro _ _ (⟨a8,bx,first,g,cd',ca',cs',W1,cx,cb,rfl,rfl,ai,aa,e1,e2,e3,e4,e5⟩|⟨aj,rfl,cd',ca',cs',W1,rfl,ai,aa,e1,e2,e3⟩)
 ·repeat(refine sA ?_;intros)
  rename_i b8 am an;refine G.loop (X:=EachN) (fun x=>x.i=0)
   (fun x=>[(31,Z9 Z8 x.i),(30,Z9 Z8 0),(29,.slice none 0 0),(12,pv an),(10,pv am),(8,pv b8),(0,pv bw)])
   (fun x=>[[(b8,row [.nilFunc] 91)],[(an,row [pv bx] 122)],[(am,row [Z9 Z8 0,Z9 Z8 0,Z9 Z8 0,Z9 Z8 0] 42)],Ab bw bd ba bs,cd',ca',cs',cx,cb]) (fun x=>0) ⟨0⟩ rfl (body:=?_)
  rintro⟨i⟩ hi;dsimp only at hi⊢;subst hi;have ao:W1.δ.size=W.δ.size:=aa.size;have a9:=aa.acts.2;have aq:=Rp bw bd ba bs W1 cd' ca' cs' ai bx first (Ac W.δ.size width bound) width bound g [] cx cb e5 W.α.gs e2 W.live e4 oM
  rw[ao] at aq;have bf:Ac W.δ.size width ([]:List T5).length-([]:List T5).length/Ad W.δ.size width≤1:=A5 (Nat.sub_le _ _) (A5 (Dl hh) (AU _));repeat(refine sA ?_;intros)
  refine cL aq ?_;rintro _ _ ⟨ab,ac,ad,W3,a1,bg,rfl,au,a2,a3,av,a4,hc⟩;try dsimp only[AA,AB]
  have aw:=Oj bx a1 a4;have ag:=(aa.trans a2).weak (k':=1) (m':=Ac W.δ.size width bound) oM (AI _);have ah:Ap W.live W W3:=fun x hx=>by rw[a3 x hx,e1]
  rcases hc with⟨f,rfl,ak,a5,a6,a7⟩|⟨rfl,hf,hδ,ak⟩
  ·have ax:flv f= .agg #[Z9 Z8 f.first,Z9 Z8 f.blocks,Z9 Z8 f.width,Z9 Z8 f.count]:=rfl;rw[ax];repeat(refine sA ?_;intros)
   refine Go.SL.Lv.call (hc:=aw.2) (h:=?_);rintro _ _ ⟨rfl,rfl⟩;try dsimp only[AA,AB]
   (refine lN [Ab bw bd ba bs,ab,ac,ad] ?_;exact⟨ab,ac,ad,W3,rfl,au,ag,av,ah,.inl ⟨f,rfl,by rw[ak];exact .refl _,a5,a6,a7⟩⟩)
  ·rw[hz];repeat(refine sA ?_;intros)
   refine Go.SL.Lv.call (hc:=aw.2) (h:=?_);rintro _ _ ⟨rfl,rfl⟩;try dsimp only[AA,AB]
   (refine lN [Ab bw bd ba bs,ab,ac,ad] ?_;exact⟨ab,ac,ad,W3,rfl,au,ag,av,ah,.inr ⟨6,rfl,oM,ak,.inl ⟨rfl,fun e=>by have:=aa.fault e;omega⟩⟩⟩)
 ·repeat(refine sA ?_;intros)
  (refine lN [Ab bw bd ba bs,cd',ca',cs'] ?_;exact⟨cd',ca',cs',W1,rfl,ai,aa.weak (AU _) (AU _),e3,fun x _=>by rw[e1],.inr ⟨5,rfl,oM,by rw[e2],.inr ⟨rfl,aj⟩⟩⟩)
theorem JMakeN (p:Jp) (hp:p.Ok) (J:Jb) (C:Aa) (hJ:Fm p J C) (width bound A T:Nat) (aq:1≤width) (ai:width≤5) (ay:bound≤100000000) (hT:Ac p.size width bound≤T) (ak:J.e=0→Ou p J T) (hA:1≤A) (a6:J.acts+A≤10000000000) (a7:J.G.length≤1000):Ct AC 52 [pv p.bj,Z9 Z8 width,Z9 Z8 bound,.nilFunc,.slice none 0 0] [C] fun v H'=> ∃f C' e',v=flv f∧H'=[C']∧Fm p ⟨e',J.er,(f,[])::J.G,J.acts+A,J.took+T⟩ C'∧(e'=0→J.e=0∧f.width=width∧f.count=0)∧f.count=0∧f.blocks=0:=by
 obtain⟨W,cd,ca,cs,held,ph,ac,ch,rfl,hW,al,ad⟩:=hJ;by_cases he:J.e=0
 ·have a8:=ad.used hp hW;have a9:Ac W.δ.size width bound≤T:=by rw[ad.size];exact hT
  have hG:=ad.ok he;have am:=yH p.bw p.bd p.ba p.bs W cd ca cs hW width bound aq ai ay oM (by have:=ad.acts;omega);have az:Ct AC 116 [pv p.bw,Z9 Z8 width,Z9 Z8 bound,.nilFunc,.slice none 0 0] [[Ab p.bw p.bd p.ba p.bs,cd,ca,cs].flatten]
    fun v H'=>∃f e an,v= .tuple #[flv f,Z9 Z8 e]∧H'=[an]∧∃aa ab cs' W',an=[Ab p.bw p.bd p.ba p.bs,aa,ab,cs'].flatten∧Wc p.bd p.ba p.bs W' aa ab cs'∧Hz p W W' A T none [] f e∧
     (e=0→f.width=width∧f.count=0):=by
   refine Ct.convP am oA19 ?_;rintro v H' ⟨aa,ab,cs',W',rfl,ag,ae,a0,a1,hc⟩;have ah:∀f e,_→Hz p W W' A T none [] f e:=fun f e hr=>⟨a0,ae.room,ae.size,ae.n,by have:=ae.acts.2;omega,by have:=ae.big;omega,ae.fault,a1,hr⟩
   rcases hc with⟨f,rfl,h3,h4,h5,h6⟩|⟨e,rfl,h1,h2,h3⟩
   ·exact⟨[[Ab p.bw p.bd p.ba p.bs,aa,ab,cs'].flatten],⟨f,0,_,rfl,rfl,aa,ab,cs',W',rfl,ag,ah f 0 (.inl ⟨rfl,rfl,h3,h6⟩),fun _=>⟨h4,h5⟩⟩,by simp⟩
   ·refine⟨[[Ab p.bw p.bd p.ba p.bs,aa,ab,cs'].flatten],⟨⟨0,0,0,0⟩,e,_,rfl,rfl,aa,ab,cs',W',rfl,ag,ah _ e (.inr ⟨h1,rfl,h2,?_⟩),fun h0=>absurd h0 h1⟩,by simp⟩;rcases h3 with h3|⟨_,h3⟩
    ·exact .inl h3
    ·have:=ad.big hW he (ak he);omega
  have a2:=iK p.bj p.bw ph held.length ac _ ch al (by have:=ad.len;omega) _ _ _ _ _ _ az;refine Ct.convP a2 (by rw[he];unfold Bv;refine Cp fun z=>?_;simp only[AX,A4,AQ,A8];omega) ?_;rintro v H' ⟨f,e,an,rfl,⟨aa,ab,cs',W',rfl,ag,hS,hz⟩,hc⟩;have au:f.count=0∧f.blocks=0:=by
   rcases hS.res with⟨r0,r1,r2,r3⟩|⟨r0,rfl,r2,r3⟩
   ·obtain⟨h2,h3⟩:=hz r0;refine⟨h3,?_⟩;have a3:=Bh hW.dev.num.1.1 aq ai;have:=Dl (n:=0) a3;rw[r3.blk,h2,h3];omega
   ·exact⟨rfl,rfl⟩
  have a4:held.length<100000:=by have h2:=hG.1.length_eq;omega
  have ao:=ad.step he hS a4;rw[Ms] at ao;rcases hc with⟨rfl,p',aj,av,rfl,a5⟩|⟨aw,rfl⟩
  ·refine⟨[Bv p 0 aa ab cs' p' (held.length+1) aj av],⟨f,_,0,rfl,rfl,⟨W',aa,ab,cs',held++[(f,[])],p',aj,av,by simp,ag,?_,by simpa using ao⟩,fun _=>⟨he,(hz rfl).1,(hz rfl).2⟩,au⟩,?_⟩
   ·simpa using a5
   ·unfold Bv;refine Cp fun z=>?_;simp only[AX,A4,AQ,A8];omega
  ·refine⟨[Bv p e aa ab cs' ph held.length ac ch],⟨f,_,e,rfl,rfl,⟨W',aa,ab,cs',held,ph,ac,ch,rfl,ag,al,by simpa[aw] using ao⟩,fun h0=>absurd h0 aw,au⟩,?_⟩;unfold Bv;refine Cp fun z=>?_;simp only[AX,A4,AQ,A8];omega
 ·refine Ct.convP (Ct.wide (Zw p.bj p.bw J.e he ph held.length ac (Z9 Z8 width) (Z9 Z8 bound) .nilFunc (.slice none 0 0)) [Ab p.bw p.bd p.ba p.bs,cd,ca,cs,ch]) (by unfold Bv;refine Cp fun z=>?_;simp only[AX,A4,AQ,A3,A8];omega) ?_;rintro v H' ⟨H1,⟨rfl,rfl⟩,rfl⟩;have ax:=ad.idle he none ((⟨0,0,0,0⟩,[])::J.G) A T;rw[Ms] at ax;refine⟨[Bv p J.e cd ca cs ph held.length ac ch],⟨⟨0,0,0,0⟩,_,J.e,rfl,rfl,⟨W,cd,ca,cs,held,ph,ac,ch,rfl,hW,al,ax⟩,fun h0=>absurd h0 he,rfl,rfl⟩,?_⟩;unfold Bv;refine Cp fun z=>?_;simp only[AX,A4,AQ,A3,A8];omega
def CtE (P:Program) (f:FuncId) (args:List Value) (H:Hp) (Pr:Aa→Prop):Prop:=Ct P f args H fun v H'=>∃C',v=flv ⟨0,0,0,0⟩∧H'=[C']∧Pr C'
theorem SMakeN {p:Jp} {B m k a s0:Nat} {e:Int} {er:Option Nat} {Gf:List (Fl×List T5)} {C:Aa} (hR:Rm p B m k a) (hJ:Ao p B k a s0 e er Gf C) (width bound c:Nat) (aa:1≤width∧width≤5) (hc:bound≤c) (ae:c≤B) (hl:Gf.length+1≤k) (ab:s0≤10000):Ct AC 52 [pv p.bj,Z9 Z8 width,Z9 Z8 bound,.nilFunc,.slice none 0 0] [C] fun v H'=> ∃f C' e',v=flv f∧H'=[C']∧Ao p B k a (s0+1) e' er ((f,[])::Gf) C'∧FB 0 0 width 0 e' f∧(e'=0→e=0):=by
 have hB:=hR.bs;have ag:=hR.kk;have ah:=hR.acts;have hm:=hR.le;have ad:=hJ.len;have ac:=nbS (s:=p.size) (w:=width) (n:=bound) (c:=c) hR.ok.size.1 aa.1 aa.2 (.inl hc);have h2:s0*30000≤10000*30000:=Nat.mul_le_mul ab (AI _);refine(JMakeN p hR.ok _ C hJ.job width bound 1 c aa.1 aa.2 oM ac (fun _=>hR.fits hJ.len hJ.blk oM _ _ _ _) oM oD oD).mono ?_;rintro v H' ⟨f,C',e',rfl,rfl,h3,h4,h5,h6⟩;exact⟨f,C',e',rfl,rfl,hJ.push hl 1 h3 oM oM oM,⟨oM,oM,fun h=>⟨(h4 h).2.1,h5⟩⟩,fun h=>(h4 h).1⟩
theorem lK {p:Jp} {B k a s0:Nat} {e:Int} {er:Option Nat} {Gf:List (Fl×List T5)} {C:Aa} (hJ:Ao p B k a s0 e er Gf C) (he:e≠0) (ts:List T5) (hl:Gf.length+1≤k) (x1 x2 x3 x4:Value):CtE AC 52 [pv p.bj,x1,x2,x3,x4] [C] (Ao p B k a (s0+1) e er ((⟨0,0,0,0⟩,ts)::Gf)):=by
 obtain⟨⟨W,cd,ca,cs,held,ph,cap,ch,rfl,hW,hV,ab⟩,ac,hb⟩:=hJ;have e1:(s0+1)*30000=s0*30000+1*30000:=Nat.add_mul _ _ _;refine Ct.convP (Ct.wide (Zw p.bj p.bw e he ph held.length cap x1 x2 x3 x4) [Ab p.bw p.bd p.ba p.bs,cd,ca,cs,ch]) (by unfold Bv;refine Cp fun z=>?_;simp only[AX,A4,AQ,A3,A8];omega) ?_;rintro v H' ⟨H1,⟨rfl,rfl⟩,rfl⟩;have aa:=ab.idle he none ((⟨0,0,0,0⟩,ts)::Gf) (1*30000) (1*30000);rw[Ms] at aa;refine⟨[Bv p e cd ca cs ph held.length cap ch],⟨_,rfl,rfl,⟨⟨W,cd,ca,cs,held,ph,cap,ch,rfl,hW,hV,?_⟩,by simpa using hl,fun x hx=>?_⟩⟩,?_⟩
 ·rw[e1,←Nat.add_assoc];exact aa
 ·rcases AM.1 hx with rfl|hx
  ·exact AU _
  ·exact hb x hx
 ·unfold Bv;refine Cp fun z=>?_;simp only[AX,A4,AQ,A3,A8];omega
def itA (p:Int→Int):Nat→Int→Int
 |0,x=>x
 |k+1,x=>itA p k (p x)
theorem Xf (p:Int→Int):∀(a b:Nat) (x:Int),itA p (a+b) x=itA p b (itA p a x)
 |0,b,x=>by rw[Nat.zero_add];rfl
 |a+1,b,x=>by rw[Nat.add_right_comm];exact Xf p a b (p x)
theorem yI (p:Int→Int) (m:Nat) (x:Int):itA p (m+1) x=p (itA p m x):=by rw[Xf];rfl
abbrev oB:T5:=⟨2,0,0,0,0⟩
abbrev oAC:T5:=⟨1,3,0,0,0⟩
theorem ltO_oB (a b:T5):ltO oB a b=true↔a.c1<b.c1:=by
 have hf:Ge oB=true:=by decide
 unfold ltO Cz;rw[decide_eq_true_iff,if_pos hf];exact aH a.c1 b.c1
theorem yJ (a b:T5):ltO oAC a b=true↔a.c0<b.c0∨a.c0=b.c0∧a.c2<b.c2:=by
 have hf:Ge oAC=true:=by decide
 unfold ltO Cz;rw[decide_eq_true_iff,if_pos hf];exact iX a.c0 b.c0 a.c2 b.c2
theorem bT (l:List T5):(srt (ltO oB) false l).Pairwise fun a c=>a.c1≤c.c1:=by
 refine(Kz (Ee oB) false l).imp fun {a b} h=>?_;have h1:¬ltO oB b a=true:=by intro h2;simp only[CE,if_false] at h;rw[h] at h2;cases h2
 rw[ltO_oB] at h1;omega
theorem yK (l:List T5):(srt (ltO oAC) false l).Pairwise fun a c=>a.c0<c.c0∨a.c0=c.c0∧a.c2≤c.c2:=by
 refine(Kz (Ee oAC) false l).imp fun {a b} h=>?_;have h1:¬ltO oAC b a=true:=by intro h2;simp only[CE,if_false] at h;rw[h] at h2;cases h2
 rw[yJ] at h1;omega
theorem lL {m:List T5} (h:m.Pairwise fun a c=>a.c0≠c.c0):(srt (ltO o1) false m).Pairwise fun a c=>a.c0<c.c0:=by have h1:((srt (ltO o1) false m).map fun t:T5=>t.c0).Nodup:=((Bs m).map fun t:T5=>t.c0).nodup_iff.2 (BA.2 h);have h2:(srt (ltO o1) false m).Pairwise fun x y=>x.c0≠y.c0:=BA.1 h1;exact((Sh m).and h2).imp fun {x y} ⟨h3,h4⟩=>by omega
theorem bU {m E:List T5} (hp:m.Perm E) (hE:E.Pairwise fun a c=>a.c0<c.c0):srt (ltO o1) false m=E:=by have h1:(srt (ltO o1) false m).Perm E:=(Bs m).trans hp;refine h1.eq_of_pairwise (le:=fun x y=>x.c0<y.c0) (fun x y _ _ h1 h2=>absurd h1 oM) (lL ?_) hE;exact(hp.pairwise_iff (R:=fun a c:T5=>a.c0≠c.c0) (fun hh=>fun e=>hh e.symm)).2 (hE.imp fun {x y} hh=>by omega)
def Jk (t:T5):T5:=⟨t.c1,t.c0,t.c2,0,0⟩
def It (E:List T5):List T5:=E.flatMap fun t=>[t,Jk t]
def Iu:Int→List T5→List T5
 |_,[]=>[]
 |k,t::l=>if t.c0=k then Iu k l else t::Iu t.c0 l
def Al (E:List T5):List T5:=Iu (-1) (srt (ltO oAC) false (It E))
def Pi (t:T5):T5:=if t.c2=t.c3∧t.c0<t.c1 then⟨t.c0,t.c0,0,0,0⟩ else⟨t.c0,t.c1,0,0,0⟩
def Nv (E:List T5):List T5:=(srt (ltO oB) false (Al E)).map (Bf (Al E) 1 2 3)
def Ie (E:List T5):List T5:=srt (ltO o1) false ((Nv E).map Pi)
def Kb (h:List T5):List T5:=(srt (ltO oB) false h).map (Bf h 1 1 2)
def nxtL (h:List T5):List T5:=srt (ltO o1) false ((Kb h).map fun t=>⟨t.c0,t.c2,0,0,0⟩)
def Pj (h:List T5):Bool:=(Kb h).any fun t=>decide (t.c1≠t.c2)
def Dj (h:List T5):Nat→List T5
 |0=>h
 |j+1=>nxtL (Dj h j)
theorem Me {E:List T5} {z:T5}:z∈It E↔∃t∈E,z=t∨z=Jk t:=by unfold It;rw[BZ];simp
theorem bV (E:List T5):(It E).length=2*E.length:=by
 unfold It;induction E with
 |nil=>rfl
 |cons t E ih=>rw[A7,AH,ih];simp;omega
theorem bW:∀{k:Int} {l:List T5} {z:T5},z∈Iu k l→z∈l
 |_,[],_,h=>by simp[Iu] at h
 |k,t::l,z,h=>by
  unfold Iu at h;split at h
  ·exact AF _ (bW h)
  ·rcases AM.1 h with rfl|h
   ·exact AE
   ·exact AF _ (bW h)
theorem Xg:∀(k:Int) (l:List T5),(Iu k l).length≤l.length
 |_,[]=>AI _
 |k,t::l=>by
  unfold Iu;split
  ·have:=Xg k l;simp only[AJ];omega
  ·have:=Xg t.c0 l;simp only[AJ];omega
theorem bX:∀{k:Int} {l:List T5},(l.Pairwise fun a c=>a.c0<c.c0∨a.c0=c.c0∧a.c2≤c.c2)→(∀t∈l,k≤t.c0)→((Iu k l).Pairwise fun a c=>a.c0<c.c0)∧(∀z∈Iu k l,k<z.c0∧∀y∈l,y.c0=z.c0→z.c2≤y.c2)∧∀y∈l,y.c0≠k→∃z∈Iu k l,z.c0=y.c0
 |k,[],_,_=>⟨DH,by simp[Iu],by simp⟩
 |k,t::l,hs,hk=>by
  obtain⟨h1,h2⟩:=BF.1 hs;have ht:=hk t AE;unfold Iu;by_cases he:t.c0=k
  ·rw[if_pos he];obtain⟨a,b,c⟩:=bX (k:=k) h2 fun y hy=>hk y (AF _ hy);refine⟨a,fun z hz=>⟨(b z hz).1,fun y hy hq=>?_⟩,fun y hy hn=>?_⟩
   ·rcases AM.1 hy with rfl|hy
    ·have:=(b z hz).1;omega
    ·exact(b z hz).2 y hy hq
   ·rcases AM.1 hy with rfl|hy
    ·exact absurd he hn
    ·exact c y hy hn
  ·rw[if_neg he];obtain⟨a,b,c⟩:=bX (k:=t.c0) h2 fun y hy=>by have:=h1 y hy;omega
   refine⟨BF.2 ⟨fun z hz=>(b z hz).1,a⟩,fun z hz=>?_,fun y hy hn=>?_⟩
   ·rcases AM.1 hz with rfl|hz
    ·refine⟨oM,fun y hy hq=>?_⟩;rcases AM.1 hy with rfl|hy
     ·omega
     ·have:=h1 y hy;omega
    ·have h3:=b z hz;refine⟨oM,fun y hy hq=>?_⟩;rcases AM.1 hy with rfl|hy
     ·omega
     ·exact h3.2 y hy hq
   ·rcases AM.1 hy with rfl|hy
    ·exact⟨y,AE,rfl⟩
    ·by_cases hq:y.c0=t.c0
     ·exact⟨t,AE,hq.symm⟩
     ·obtain⟨z,hz,he⟩:=c y hy hq;exact⟨z,AF _ hz,he⟩
structure EOk (E:List T5):Prop where
 c0:∀t∈E,0≤t.c0∧0≤t.c1∧t.c0≠t.c1
 ok:∀t∈E,okT 3 t
 nd:E.Pairwise fun a c=>a.c2≠c.c2
theorem bY {t:T5} (h:okT 3 t):Jk (Jk t)=t:=by have h3:=h.2 3 oM;have h4:=h.2 4 oM;obtain⟨a,b,c,d,e⟩:=t;have e3:d=0:=h3;have e4:e=0:=h4;subst e3 e4;rfl
theorem Sw {E:List T5} {z:T5} (h:z∈Al E):∃t∈E,z=t∨z=Jk t:=Me.1 ((Bs _).mem_iff.1 (bW h))
theorem EOk.cho {E:List T5} (h:EOk E):((Al E).Pairwise fun a c=>a.c0<c.c0)∧(∀z∈Al E,∀y∈It E,y.c0=z.c0→z.c2≤y.c2)∧∀y∈It E,∃z∈Al E,z.c0=y.c0:=by
 have aa:∀y∈It E,0≤y.c0:=fun y hy=>by
  obtain⟨t,ht,rfl|rfl⟩:=Me.1 hy
  ·exact(h.c0 _ ht).1
  ·exact(h.c0 _ ht).2.1
 obtain⟨a,b,c⟩:=bX (k:= -1) (yK (It E)) (fun t ht=>by have:=aa t ((Bs _).mem_iff.1 ht);omega);refine⟨a,fun z hz y hy=>(b z hz).2 y ((Bs _).mem_iff.2 hy),fun y hy=>c y ((Bs _).mem_iff.2 hy) ?_⟩;have:=aa y hy;omega
def chT' (E:List T5) (u:Int):Option T5:=(Al E).find? fun t=>decide (t.c0=u)
def pC (E:List T5) (u:Int):Int:=match chT' E u with
 |some t=>if lkV (Al E) t.c1 2=t.c2∧t.c0<t.c1 then t.c0 else t.c1
 |none=>u
theorem lO {E:List T5} (h:EOk E) {t:T5} (ht:t∈Al E):chT' E t.c0=some t:=by
 unfold chT';cases hf:(Al E).find? fun u=>decide (u.c0=t.c0) with
 |none=>rw[List.find?_eq_none] at hf;exact absurd (decide_eq_true rfl) (hf t ht)
 |some u=>
  have h1:u.c0=t.c0:=by simpa using List.find?_some hf
  have h2:=List.mem_of_find?_eq_some hf;obtain⟨i,hi,rfl⟩:=B3.1 ht;obtain⟨j,hj,rfl⟩:=B3.1 h2;rcases CK i j with h3|h3|h3
  ·have:=A9.1 h.cho.1 i j hi hj h3;omega
  ·subst h3;rfl
  ·have:=A9.1 h.cho.1 j i hj hi h3;omega
theorem Ug {E:List T5} (h:EOk E) {t:T5} (ht:t∈Al E):pC E t.c0=if lkV (Al E) t.c1 2=t.c2∧t.c0<t.c1 then t.c0 else t.c1:=by unfold pC;rw[lO h ht]
theorem EOk.other {E:List T5} (h:EOk E) {t:T5} (ht:t∈Al E):∃u∈Al E,u.c0=t.c1∧u.c2≤t.c2∧(u.c2=t.c2→u=Jk t):=by
 obtain⟨s,hs,hts⟩:=Sw ht;have aa:Jk t∈It E∧Jk (Jk t)=t∧t∈It E:=by
  rcases hts with rfl|rfl
  ·exact⟨Me.2 ⟨_,hs,.inr rfl⟩,bY (h.ok _ hs),Me.2 ⟨_,hs,.inl rfl⟩⟩
  ·rw[bY (h.ok _ hs)];exact⟨Me.2 ⟨_,hs,.inl rfl⟩,rfl,Me.2 ⟨_,hs,.inr rfl⟩⟩
 obtain⟨u,hu,he⟩:=h.cho.2.2 _ aa.1;have he:u.c0=t.c1:=he;have ad:u.c2≤(Jk t).c2:=h.cho.2.1 u hu _ aa.1 he.symm;refine⟨u,hu,he,ad,fun h2=>?_⟩;obtain⟨v,hv,ab⟩:=Sw hu;have e1:v.c2=u.c2:=by rcases ab with rfl|rfl<;>rfl
 have e2:s.c2=t.c2:=by rcases hts with rfl|rfl<;>rfl
 have ae:v=s:=by
  obtain⟨i,hi,rfl⟩:=B3.1 hv;obtain⟨j,hj,rfl⟩:=B3.1 hs;rcases CK i j with h3|h3|h3
  ·have:=A9.1 h.nd i j hi hj h3;omega
  ·subst h3;rfl
  ·have:=A9.1 h.nd j i hj hi h3;omega
 subst ae;have ac:=(h.c0 _ hv).2.2;rcases hts with rfl|rfl<;>rcases ab with rfl|rfl
 ·exact absurd he ac
 ·rfl
 ·exact(bY (h.ok _ hs)).symm
 ·have he:v.c1=v.c0:=he;exact absurd he.symm ac
theorem Uh {E:List T5} (h:EOk E) {u:Int} (hu:∃t∈Al E,t.c0=u):∃t∈Al E,t.c0=pC E u:=by
 obtain⟨t,ht,rfl⟩:=hu;rw[Ug h ht];split
 ·exact⟨t,ht,rfl⟩
 ·obtain⟨v,hv,he,_⟩:=h.other ht;exact⟨v,hv,he⟩
theorem Pl {E:List T5} (h:EOk E):∀(m:Nat) {u:Int},(∃t∈Al E,t.c0=u)→∃t∈Al E,t.c0=itA (pC E) m u
 |0,_,hu=>hu
 |m+1,_,hu=>Pl h m (Uh h hu)
theorem yL {E:List T5} (h:EOk E):Ie E=(Al E).map fun t=>⟨t.c0,pC E t.c0,0,0,0⟩:=by
 unfold Ie Nv;refine bU ?_ (BA.2 (h.cho.1.imp fun hh=>hh));rw[CH];refine((Bs _).map _).trans (DD (CM fun t ht=>?_));rw[Ug h ht];show Pi (Dq t 3 (lkV (Al E) t.c1 2))=_;unfold Pi Dq;by_cases h1:lkV (Al E) t.c1 2=t.c2∧t.c0<t.c1
 ·rw[if_pos h1,if_pos ⟨h1.1.symm,h1.2⟩];rfl
 ·rw[if_neg h1,if_neg fun h2=>h1 ⟨h2.1.symm,h2.2⟩];rfl
def ptL (E:List T5) (q:Int→Int):List T5:=(Al E).map fun t=>⟨t.c0,q t.c0,0,0,0⟩
theorem bZ {E:List T5} (h:EOk E) (q:Int→Int):(ptL E q).Pairwise fun a c=>a.c0<c.c0:=BA.2 (h.cho.1.imp fun hh=>hh)
theorem lP {E:List T5} (h:EOk E) (q:Int→Int) {u:Int} (hu:∃t∈Al E,t.c0=u):lkV (ptL E q) u 1=q u:=by obtain⟨t,ht,rfl⟩:=hu;have hm:(⟨t.c0,q t.c0,0,0,0⟩:T5)∈ptL E q:=AN.2 ⟨t,ht,rfl⟩;exact Ix (v:=1) (bZ h q) hm rfl
theorem ptL_no {E:List T5} (q:Int→Int) {u:Int} (hu:¬∃t∈Al E,t.c0=u):lkV (ptL E q) u 1= -1:=by refine Se fun z hz he=>?_;obtain⟨t,ht,rfl⟩:=AN.1 hz;exact hu ⟨t,ht,he⟩
theorem lQ {E:List T5} (h:EOk E) {q:Int→Int} (hq:∀u,(∃t∈Al E,t.c0=u)→∃t∈Al E,t.c0=q u):(Kb (ptL E q)).Perm ((Al E).map fun t=>⟨t.c0,q t.c0,q (q t.c0),0,0⟩):=by unfold Kb;refine((Bs _).map _).trans ?_;unfold ptL;rw[CH];refine DD (CM fun t ht=>?_);have:=lP h q (hq t.c0 ⟨t,ht,rfl⟩);unfold ptL at this;show Dq _ 2 (lkV _ (q t.c0) 1)=_;rw[this];rfl
theorem yM {E:List T5} (h:EOk E) {q:Int→Int} (hq:∀u,(∃t∈Al E,t.c0=u)→∃t∈Al E,t.c0=q u):nxtL (ptL E q)=ptL E fun u=>q (q u):=by unfold nxtL;refine bU ?_ (bZ h _);refine((lQ h hq).map _).trans ?_;rw[CH];exact .refl _
theorem lR {E:List T5} (h:EOk E) {q:Int→Int} (hq:∀u,(∃t∈Al E,t.c0=u)→∃t∈Al E,t.c0=q u):Pj (ptL E q)=false↔∀t∈Al E,q (q t.c0)=q t.c0:=by
 unfold Pj;rw[List.any_eq_false];have hm:∀z,z∈Kb (ptL E q)↔∃t∈Al E,z=⟨t.c0,q t.c0,q (q t.c0),0,0⟩:=fun z=>by rw[(lQ h hq).mem_iff,AN];exact⟨fun ⟨t,a,b⟩=>⟨t,a,b.symm⟩,fun ⟨t,a,b⟩=>⟨t,a,b.symm⟩⟩
 constructor
 ·intro h1 t ht;have h2:=h1 _ ((hm _).2 ⟨t,ht,rfl⟩);refine BX fun hc=>h2 (decide_eq_true fun e=>hc e.symm)
 ·intro h1 z hz hd;obtain⟨t,ht,rfl⟩:=(hm z).1 hz;exact of_decide_eq_true hd (h1 t ht).symm
theorem Ui {E:List T5} (h:EOk E):∀j,Dj (Ie E) j=ptL E (itA (pC E) (2^j))
 |0=>by
  show Ie E=_;rw[yL h];rfl
 |j+1=>by show nxtL (Dj (Ie E) j)=_;rw[Ui h j,yM h fun u hu=>Pl h _ hu];unfold ptL;refine CM fun t _=>?_;rw[show 2^(j+1)=2^j+2^j by rw[Nat.pow_succ];omega,Xf]
theorem Xh {E:List T5} (h:EOk E) {φ:Int→Nat} (hφ:∀t∈Al E,∀u∈Al E,(u.c2<t.c2→φ u.c0<φ t.c0)∧(u=Jk t→u.c0<t.c0→φ u.c0<φ t.c0)) {u:Int} (hu:∃t∈Al E,t.c0=u) (hp:pC E u≠u):φ (pC E u)<φ u:=by
 obtain⟨t,ht,rfl⟩:=hu;rw[Ug h ht] at hp⊢;split
 ·rename_i hc;rw[if_pos hc] at hp;exact absurd rfl hp
 ·rename_i hc;obtain⟨v,hv,he,ab,aa⟩:=h.other ht;rw[←he];by_cases h2:v.c2=t.c2
  ·refine(hφ t ht v hv).2 (aa h2) ?_;have h3:lkV (Al E) t.c1 2=t.c2:=by rw[Ix (v:=2) h.cho.1 hv he];exact h2
   have h4:¬t.c0<t.c1:=fun h5=>hc ⟨h3,h5⟩;have h5:t.c0≠t.c1:=by
    obtain⟨s,hs,rfl|rfl⟩:=Sw ht
    ·exact(h.c0 _ hs).2.2
    ·exact fun e=>(h.c0 _ hs).2.2 e.symm
   omega
  ·exact(hφ t ht v hv).1 oM
theorem lS {E:List T5} (h:EOk E) {φ:Int→Nat} (hφ:∀t∈Al E,∀u∈Al E,(u.c2<t.c2→φ u.c0<φ t.c0)∧(u=Jk t→u.c0<t.c0→φ u.c0<φ t.c0)):∀(m:Nat) {u:Int},(∃t∈Al E,t.c0=u)→φ (itA (pC E) m u)≤φ u
 |0,_,_=>AI _
 |m+1,u,hu=>by
  show φ (itA (pC E) m (pC E u))≤φ u;have h1:=lS h hφ m (Uh h hu);by_cases hp:pC E u=u
  ·rw[hp] at h1⊢;exact h1
  ·have:=Xh h hφ hu hp;omega
theorem Xi (E:List T5) {u:Int} (hp:pC E u=u):∀m,itA (pC E) m u=u
 |0=>rfl
 |m+1=>by show itA (pC E) m (pC E u)=u;rw[hp];exact Xi E hp m
theorem lT {E:List T5} (h:EOk E) {φ:Int→Nat} (hφ:∀t∈Al E,∀u∈Al E,(u.c2<t.c2→φ u.c0<φ t.c0)∧(u=Jk t→u.c0<t.c0→φ u.c0<φ t.c0)):∀(m:Nat) {u:Int},(∃t∈Al E,t.c0=u)→φ u≤m→pC E (itA (pC E) m u)=itA (pC E) m u
 |0,u,hu,hm=>by
  show pC E u=u;refine BX fun hp=>?_;have:=Xh h hφ hu hp;omega
 |m+1,u,hu,hm=>by
  show pC E (itA (pC E) m (pC E u))=itA (pC E) m (pC E u);by_cases hp:pC E u=u
  ·rw[hp,Xi E hp m];exact hp
  ·have:=Xh h hφ hu hp;exact lT h hφ m (Uh h hu) oM
theorem yN {E:List T5} (h:EOk E) {φ:Int→Nat} (hφ:∀t∈Al E,∀u∈Al E,(u.c2<t.c2→φ u.c0<φ t.c0)∧(u=Jk t→u.c0<t.c0→φ u.c0<φ t.c0)) {m:Nat} {u:Int} (hu:∃t∈Al E,t.c0=u) (hb:itA (pC E) (m+1) u=u):pC E u=u:=by refine BX fun hp=>?_;have h1:=Xh h hφ hu hp;have h2:=lS h hφ m (Uh h hu);have h3:itA (pC E) m (pC E u)=u:=hb;rw[h3] at h2;omega
def Kc (w col:Nat) (t:T5):T5:=Dq (if t.col w≠-1 then Dq t col (t.col w) else t) w 0
def ordC:Nat→T5
 |0=>o1
 |_=>oB
def Du (w col:Nat) (h f:List T5):List T5:=((srt (ltO (ordC col)) false f).map (Bf h col 1 w)).map (Kc w col)
def rfx (h:List T5) (x:Int):Int:=if lkV h x 1≠-1 then lkV h x 1 else x
theorem cA {h f:List T5} (hf:∀t∈f,okT 3 t):(Du 3 0 h f).Perm (f.map fun t=>⟨rfx h t.c0,t.c1,t.c2,0,0⟩):=by unfold Du;rw[CH];refine((Bs _).map _).trans (DD (CM fun t ht=>?_));have h4:t.c4=0:=(hf t ht).2 4 oM;show Kc 3 0 (Dq t 3 (lkV h t.c0 1))=_;unfold Kc rfx Dq;simp only[T5.col,h4];split<;>rfl
theorem yO {h f:List T5} (hf:∀t∈f,okT 3 t):(Du 3 1 h f).Perm (f.map fun t=>⟨t.c0,rfx h t.c1,t.c2,0,0⟩):=by unfold Du;rw[CH];refine((Bs _).map _).trans (DD (CM fun t ht=>?_));have h4:t.c4=0:=(hf t ht).2 4 oM;show Kc 3 1 (Dq t 3 (lkV h t.c1 1))=_;unfold Kc rfx Dq;simp only[T5.col,h4];split<;>rfl
theorem lU {h f:List T5} (hf:∀t∈f,okT 2 t):(Du 2 1 h f).Perm (f.map fun t=>⟨t.c0,rfx h t.c1,0,0,0⟩):=by unfold Du;rw[CH];refine((Bs _).map _).trans (DD (CM fun t ht=>?_));have h3:t.c3=0:=(hf t ht).2 3 oM;have h4:t.c4=0:=(hf t ht).2 4 oM;show Kc 2 1 (Dq t 2 (lkV h t.c1 1))=_;unfold Kc rfx Dq;simp only[T5.col,h3,h4];split<;>rfl
def edL (h E:List T5):List T5:=Du 3 1 h (Du 3 0 h E)
def edN (h E:List T5):List T5:=(edL h E).filter fun t=>decide (t.c0≠t.c1)
theorem yP {h E:List T5} (hf:∀t∈E,okT 3 t) (aa:∀t∈Du 3 0 h E,okT 3 t):(edL h E).Perm (E.map fun t=>⟨rfx h t.c0,rfx h t.c1,t.c2,0,0⟩):=by unfold edL;refine(yO aa).trans ?_;refine((cA hf).map _).trans ?_;rw[CH];exact .refl _
structure Ax (N:Nat) (sl:List T5) (L:Nat→Nat) (F:Nat→Prop) (E La Fo:List T5):Prop where
 lab:La.Perm ((BE N).map fun (v:Nat)=>⟨(v:Int),(L v:Int),0,0,0⟩)
 lt:∀v,v<N→L v<N
 cn:∀v w,v<N→w<N→(L v=L w↔Cn (gE (sl.map Cw)) F v w)
 kr:∀i,F i→Kr (gE (sl.map Cw)) (fun j=>j<sl.length) i
 fo:∀x,x∈Fo↔∃(i:Nat) (s:T5),sl[i]? =some s∧F i∧x=⟨s.c0,0,0,0,0⟩
 ed:∀t,t∈E↔∃(i:Nat) (s:T5),sl[i]? =some s∧L s.c1.toNat≠L s.c2.toNat∧t=⟨(L s.c1.toNat:Int),(L s.c2.toNat:Int),s.c0,0,0⟩
 nd:E.Pairwise fun a c=>a.c2≠c.c2
 len:Fo.length+2*E.length≤2*sl.length
structure Bx (N:Nat) (sl:List T5):Prop where
 n:N≤1000000
 ed:∀t∈sl,Fq N t
 lt:sl.Pairwise fun a c=>a.c0<c.c0
 ok:∀t∈sl,okT 3 t
theorem Qr {sl:List T5} {i:Nat} {s:T5} (h:sl[i]? =some s):gE (sl.map Cw) i=(s.c1.toNat,s.c2.toNat):=by unfold Go.Proofs.YtaofijjjheiknaaGreat.gE;rw[BM,h];rfl
theorem Bx.inN {N:Nat} {sl:List T5} (h:Bx N sl) {i:Nat} {s:T5} (hs:sl[i]? =some s):s.c1.toNat<N∧s.c2.toNat<N:=by obtain⟨_,h1,h2,h3,h4⟩:=h.ed s (AY hs);omega
theorem Bx.idx {N:Nat} {sl:List T5} (h:Bx N sl) {i j:Nat} {s u:T5} (hs:sl[i]? =some s) (hu:sl[j]? =some u):(i<j↔s.c0<u.c0)∧(s.c0=u.c0→i=j):=by
 obtain⟨i1,rfl⟩:=AK.1 hs;obtain⟨i2,rfl⟩:=AK.1 hu;have h1:=fun hh=>A9.1 h.lt i j i1 i2 hh;have h2:=fun hh=>A9.1 h.lt j i i2 i1 hh;rcases CK i j with h3|h3|h3
 ·have:=h1 h3;exact⟨⟨fun _=>this,fun _=>h3⟩,fun e=>by omega⟩
 ·subst h3;exact⟨⟨fun hh=>by omega,fun hh=>by omega⟩,fun _=>rfl⟩
 ·have:=h2 h3;exact⟨⟨fun hh=>by omega,fun hh=>by omega⟩,fun e=>by omega⟩
section
variable {N:Nat} {sl:List T5} {L:Nat→Nat} {F:Nat→Prop} {E La Fo:List T5}
theorem Lj {x:Nat} (h:x≤1000000):Av (x:Int):=⟨oM,oM⟩
theorem Ax.eok (hs:Bx N sl) (h:Ax N sl L F E La Fo):EOk E where
 c0 t ht:=by obtain⟨i,s,h1,h2,rfl⟩:=(h.ed t).1 ht;refine⟨Int.natCast_nonneg _,Int.natCast_nonneg _,fun e=>h2 ?_⟩;have e:((L s.c1.toNat:Nat):Int)=(L s.c2.toNat:Int):=e;omega
 ok t ht:=by obtain⟨i,s,h1,h2,rfl⟩:=(h.ed t).1 ht;have h3:=hs.inN h1;have h4:=h.lt _ h3.1;have h5:=h.lt _ h3.2;have hn:=hs.n;exact Iv (Lj oM) (Lj oM) (Dp (hs.ok s (AY h1))).1
 nd:=h.nd
theorem Ax.cho (hs:Bx N sl) (h:Ax N sl L F E La Fo) {t:T5} (ht:t∈Al E):∃(i:Nat) (s:T5),sl[i]? =some s∧L s.c1.toNat≠L s.c2.toNat∧t.c2=s.c0∧((t.c0=(L s.c1.toNat:Int)∧t.c1=(L s.c2.toNat:Int))∨(t.c0=(L s.c2.toNat:Int)∧t.c1=(L s.c1.toNat:Int)))∧∀(j:Nat) (u:T5),sl[j]? =some u→L u.c1.toNat≠L u.c2.toNat→((L u.c1.toNat:Int)=t.c0∨(L u.c2.toNat:Int)=t.c0)→i≤j:=by
 have he:=h.eok hs;obtain⟨e,ab,aa⟩:=Sw ht;obtain⟨i,s,h1,h2,rfl⟩:=(h.ed e).1 ab;refine⟨i,s,h1,h2,by rcases aa with rfl|rfl<;>rfl,by rcases aa with rfl|rfl;exact .inl ⟨rfl,rfl⟩;exact .inr ⟨rfl,rfl⟩,fun j u hu ac hc=>?_⟩;have h3:(⟨(L u.c1.toNat:Int),(L u.c2.toNat:Int),u.c0,0,0⟩:T5)∈E:=(h.ed _).2 ⟨j,u,hu,ac,rfl⟩;have h4:t.c2≤u.c0:=by
  rcases hc with hc|hc
  ·exact he.cho.2.1 t ht _ (Me.2 ⟨_,h3,.inl rfl⟩) hc
  ·exact he.cho.2.1 t ht _ (Me.2 ⟨_,h3,.inr rfl⟩) hc
 have h5:t.c2=s.c0:=by rcases aa with rfl|rfl<;>rfl
 have h6:=hs.idx hu h1;by_cases ad:j<i
 ·have:=h6.1.1 ad;omega
 ·omega
noncomputable def phi (sl E:List T5) (u:Int):Nat:=match chT' E u with
 |some t=>match sl.findIdx? fun s=>decide (s.c0=t.c2) with
  |some i=>2*i+(if t.c1<t.c0 then 1 else 0)
  |none=>0
 |none=>0
theorem idx_of (hs:Bx N sl) {i:Nat} {s:T5} (h:sl[i]? =some s):sl.findIdx? (fun u=>decide (u.c0=s.c0))=some i:=by rw[List.findIdx?_eq_some_iff_getElem];obtain⟨hi,rfl⟩:=AK.1 h;refine⟨hi,by simp,fun j hj=>?_⟩;have:=A9.1 hs.lt j i oM hi hj;simp only[decide_eq_true_eq];omega
theorem Ax.phi_is (hs:Bx N sl) (h:Ax N sl L F E La Fo) {t:T5} (ht:t∈Al E):∃(i:Nat) (s:T5),sl[i]? =some s∧t.c2=s.c0∧phi sl E t.c0=2*i+(if t.c1<t.c0 then 1 else 0):=by obtain⟨i,s,h1,_,h3,_⟩:=h.cho hs ht;refine⟨i,s,h1,h3,?_⟩;unfold phi;rw[lO (h.eok hs) ht];dsimp only;rw[h3,idx_of hs h1]
theorem Ax.phi_ok (hs:Bx N sl) (h:Ax N sl L F E La Fo):∀t∈Al E,∀u∈Al E,(u.c2<t.c2→phi sl E u.c0<phi sl E t.c0)∧(u=Jk t→u.c0<t.c0→phi sl E u.c0<phi sl E t.c0):=by
 intro t ht u hu;obtain⟨i,s,h1,h2,h3⟩:=h.phi_is hs ht;obtain⟨j,r,g1,g2,g3⟩:=h.phi_is hs hu;rw[h3,g3];constructor
 ·intro aa;have:=(hs.idx g1 h1).1.2 oM;split<;>split<;>omega
 ·intro hr aa;have e1:u.c2=t.c2:=by rw[hr];rfl
  have e2:u.c1=t.c0:=by rw[hr];rfl
  have e3:u.c0=t.c1:=by rw[hr];rfl
  have:=(hs.idx g1 h1).2 oM;subst this;rw[if_neg oM,if_pos oM];omega
theorem Ax.phi_le (hs:Bx N sl) (h:Ax N sl L F E La Fo) {u:Int} (hu:∃t∈Al E,t.c0=u):phi sl E u≤2*sl.length:=by obtain⟨t,ht,rfl⟩:=hu;obtain⟨i,s,h1,h2,h3⟩:=h.phi_is hs ht;have:=(AK.1 h1).1;rw[h3];split<;>omega
theorem Ax.fixed (hs:Bx N sl) (h:Ax N sl L F E La Fo) {m:Nat} (hm:0<m) (hq:∀t∈Al E,itA (pC E) m (itA (pC E) m t.c0)=itA (pC E) m t.c0) {u:Int} (hu:∃t∈Al E,t.c0=u):pC E (itA (pC E) m u)=itA (pC E) m u:=by
 have he:=h.eok hs;obtain⟨m,rfl⟩:∃m',m=m'+1:=⟨m-1,oM⟩
 have h1:=Pl he (m+1) hu;obtain⟨t,ht,rfl⟩:=hu;exact yN he (h.phi_ok hs) h1 (hq t ht)
theorem Ax.ends (hs:Bx N sl) (h:Ax N sl L F E La Fo) {m:Nat} (hm:2*sl.length≤m):∀t∈Al E,itA (pC E) m (itA (pC E) m t.c0)=itA (pC E) m t.c0:=by
 intro t ht;have he:=h.eok hs;have h1:∃u∈Al E,u.c0=t.c0:=⟨t,ht,rfl⟩
 exact Xi E (lT he (h.phi_ok hs) m h1 (A5 (h.phi_le hs h1) hm)) m
end
def Dm (E:List T5) (u:Int):Prop:=∃t∈Al E,t.c0=u
section
variable {N:Nat} {sl:List T5} {L:Nat→Nat} {F:Nat→Prop} {E La Fo:List T5}
theorem Ax.dmLab (hs:Bx N sl) (h:Ax N sl L F E La Fo) {u:Int} (hu:Dm E u):∃a,a<N∧(L a:Int)=u:=by
 obtain⟨t,ht,rfl⟩:=hu;obtain⟨i,s,h1,_,_,h4,_⟩:=h.cho hs ht;have h5:=hs.inN h1;rcases h4 with⟨h4,_⟩|⟨h4,_⟩
 ·exact⟨_,h5.1,h4.symm⟩
 ·exact⟨_,h5.2,h4.symm⟩
theorem Xj {E:List T5} (he:EOk E) (q:Int→Int) (hq:∀u,Dm E u→0≤q u) {u:Int} (hu:Dm E u):rfx (ptL E q) u=q u:=by unfold rfx;rw[lP he q hu,if_pos];have:=hq u hu;omega
theorem lV {E:List T5} (q:Int→Int) {u:Int} (hu:¬Dm E u):rfx (ptL E q) u=u:=by unfold rfx;rw[ptL_no q hu,if_neg];simp
structure Rnd (E:List T5) (m:Nat):Prop where
 fix:∀u,Dm E u→pC E (itA (pC E) m u)=itA (pC E) m u
def Hm (E:List T5) (m:Nat):List T5:=ptL E (itA (pC E) m)
def nZ (E:List T5) (m:Nat) (L:Nat→Nat) (v:Nat):Nat:=(rfx (Hm E m) (L v)).toNat
theorem Ax.pos (hs:Bx N sl) (h:Ax N sl L F E La Fo) {u:Int} (hu:Dm E u) (m:Nat):0≤itA (pC E) m u:=by obtain⟨a,_,he⟩:=h.dmLab hs (Pl (h.eok hs) m hu);omega
theorem Ax.rfxL (hs:Bx N sl) (h:Ax N sl L F E La Fo) (m:Nat) {v:Nat} (hv:v<N):∃w,w<N∧rfx (Hm E m) (L v)=(L w:Int):=by
 by_cases hd:Dm E (L v)
 ·have h1:rfx (Hm E m) (L v)=itA (pC E) m (L v):=Xj (h.eok hs) _ (fun u hu=>h.pos hs hu m) hd;obtain⟨a,ha,he⟩:=h.dmLab hs (Pl (h.eok hs) m hd);exact⟨a,ha,by rw[h1,he]⟩
 ·exact⟨v,hv,lV _ hd⟩
theorem Ax.nxI (hs:Bx N sl) (h:Ax N sl L F E La Fo) (m:Nat) {v:Nat} (hv:v<N):(nZ E m L v:Int)=rfx (Hm E m) (L v):=by obtain⟨w,_,he⟩:=h.rfxL hs m hv;unfold nZ;rw[he];rfl
theorem Rnd.rp {E:List T5} {m:Nat} (hr:Rnd E m) {u:Int} (hu:Dm E u):itA (pC E) m (pC E u)=itA (pC E) m u:=by have h1:itA (pC E) m (pC E u)=itA (pC E) (m+1) u:=rfl;rw[h1,yI];exact hr.fix u hu
theorem lW {E:List T5} (he:EOk E) {t:T5} (ht:t∈Al E):pC E t.c0=t.c1∨(pC E t.c0=t.c0∧pC E t.c1=t.c0):=by
 have h1:=Ug he ht;by_cases hc:lkV (Al E) t.c1 2=t.c2∧t.c0<t.c1
 ·rw[if_pos hc] at h1;obtain⟨u,hu,aa,ac,ab⟩:=he.other ht;have h2:lkV (Al E) t.c1 2=u.c2:=Ix (v:=2) he.cho.1 hu aa;have h3:=ab (by rw[←h2];exact hc.1);have h4:=Ug he hu;have e1:u.c1=t.c0:=by rw[h3];rfl
  rw[if_neg fun h5=>by rw[aa,e1] at h5;omega,aa,e1] at h4;exact .inr ⟨h1,h4⟩
 ·rw[if_neg hc] at h1;exact .inl h1
theorem Dm.other {E:List T5} (he:EOk E) {t:T5} (ht:t∈Al E):Dm E t.c1:=by obtain⟨u,hu,aa,_⟩:=he.other ht;exact⟨u,hu,aa⟩
theorem Rnd.same {E:List T5} {m:Nat} (hr:Rnd E m) (he:EOk E) {t:T5} (ht:t∈Al E):itA (pC E) m t.c0=itA (pC E) m t.c1:=by
 rcases lW he ht with h|⟨h1,h2⟩
 ·have:=hr.rp (u:=t.c0) ⟨t,ht,rfl⟩;rw[h] at this;exact this.symm
 ·have:=hr.rp (Dm.other he ht);rw[h2] at this;exact this
def ChE (sl E:List T5) (i:Nat):Prop:=∃(s t:T5),sl[i]? =some s∧t∈Al E∧t.c2=s.c0
theorem Ax.chE (hs:Bx N sl) (h:Ax N sl L F E La Fo) {i:Nat} (hc:ChE sl E i):∃(s t:T5),sl[i]? =some s∧t∈Al E∧t.c2=s.c0∧L s.c1.toNat≠L s.c2.toNat∧((t.c0=(L s.c1.toNat:Int)∧t.c1=(L s.c2.toNat:Int))∨(t.c0=(L s.c2.toNat:Int)∧t.c1=(L s.c1.toNat:Int)))∧∀(j:Nat) (u:T5),sl[j]? =some u→L u.c1.toNat≠L u.c2.toNat→((L u.c1.toNat:Int)=t.c0∨(L u.c2.toNat:Int)=t.c0)→i≤j:=by
 obtain⟨s,t,h1,h2,h3⟩:=hc;obtain⟨j,u,g1,g2,g3,g4,g5⟩:=h.cho hs h2;obtain rfl:=(hs.idx g1 h1).2 oM;rw[h1] at g1;cases g1;exact⟨s,t,h1,h2,h3,g2,g4,g5⟩
theorem Ax.rfx_ch (hs:Bx N sl) (h:Ax N sl L F E La Fo) {m:Nat} (hr:Rnd E m) {t:T5} (ht:t∈Al E):rfx (Hm E m) t.c0=rfx (Hm E m) t.c1:=by have he:=h.eok hs;unfold Hm;rw[Xj he _ (fun u hu=>h.pos hs hu m) ⟨t,ht,rfl⟩,Xj he _ (fun u hu=>h.pos hs hu m) (Dm.other he ht)];exact hr.same he ht
theorem Ax.taken (hs:Bx N sl) (h:Ax N sl L F E La Fo) {m:Nat} (hr:Rnd E m) {i:Nat} (hi:F i∨ChE sl E i):∃(s:T5),sl[i]? =some s∧nZ E m L s.c1.toNat=nZ E m L s.c2.toNat:=by
 rcases hi with hi|hi
 ·have h1:=(h.kr i hi).1;have h2:sl[i]? =some sl[i]:=AG h1;have h3:=hs.inN h2;have h4:Cn (gE (sl.map Cw)) F (sl[i]).c1.toNat (sl[i]).c2.toNat:=by have:=Cn.edge (g:=gE (sl.map Cw)) hi;rwa[Qr h2] at this
  refine⟨_,h2,?_⟩;unfold nZ;rw[(h.cn _ _ h3.1 h3.2).2 h4]
 ·obtain⟨s,t,h1,h2,h3,_,h5,_⟩:=h.chE hs hi;refine⟨s,h1,?_⟩;have h6:=h.rfx_ch hs hr h2;unfold nZ;rcases h5 with⟨a,b⟩|⟨a,b⟩
  ·rw[←a,←b,h6]
  ·rw[←a,←b,h6]
theorem Ax.hang (hs:Bx N sl) (h:Ax N sl L F E La Fo):∀(k:Nat) {u:Int},Dm E u→∀{v w:Nat},v<N→(L v:Int)=u→w<N→(L w:Int)=itA (pC E) k u→Cn (gE (sl.map Cw)) (fun i=>F i∨ChE sl E i) v w
 |0,u,hu,v,w,hv,hvu,hw,hwu=>by
  have h1:L v=L w:=by have hwu:(L w:Int)=u:=hwu;omega
  exact((h.cn v w hv hw).1 h1).mono fun i hi=> .inl hi
 |k+1,u,hu,v,w,hv,hvu,hw,hwu=>by
  have he:=h.eok hs;have hd:=Uh he hu;obtain⟨z,hz,aa⟩:=h.dmLab hs hd;refine Cn.trans ?_ (h.hang hs k hd hz aa hw hwu);obtain⟨t,ht,rfl⟩:=hu;have hF:∀{a b:Nat},a<N→b<N→L a=L b→Cn (gE (sl.map Cw)) (fun i=>F i∨ChE sl E i) a b:=fun ha hb ab=>((h.cn _ _ ha hb).1 ab).mono fun i hi=> .inl hi;rcases lW he ht with h1|⟨h1,_⟩
  ·obtain⟨i,s,g1,g2,g3,g4,_⟩:=h.cho hs ht;have h3:=hs.inN g1;have h4:Cn (gE (sl.map Cw)) (fun i=>F i∨ChE sl E i) s.c1.toNat s.c2.toNat:=by have:=Cn.edge (g:=gE (sl.map Cw)) (S:=fun i=>F i∨ChE sl E i) (i:=i) (.inr ⟨s,t,g1,ht,g3⟩);rwa[Qr g1] at this
   rw[h1] at aa;rcases g4 with⟨a,b⟩|⟨a,b⟩
   ·exact((hF hv h3.1 oM).trans h4).trans (hF h3.2 hz oM)
   ·exact((hF hv h3.2 oM).trans h4.symm).trans (hF h3.1 hz oM)
  ·rw[h1] at aa;exact hF hv hz oM
theorem Ax.ok2 (hs:Bx N sl) (h:Ax N sl L F E La Fo):∀t∈La,okT 2 t:=by intro t ht;obtain⟨v,hv,rfl⟩:=AN.1 (h.lab.mem_iff.1 ht);have h1:=BD.1 hv;have h2:=h.lt v h1;have hn:=hs.n;exact Hk (Lj oM) (Lj oM)
theorem Ax.edm (hs:Bx N sl) (h:Ax N sl L F E La Fo) (m:Nat):(edL (Hm E m) E).Perm (E.map fun t=>⟨rfx (Hm E m) t.c0,rfx (Hm E m) t.c1,t.c2,0,0⟩):=by have he:=h.eok hs;refine yP he.ok fun t ht=>?_;obtain⟨u,hu,rfl⟩:=AN.1 ((cA he.ok).mem_iff.1 ht);obtain⟨i,s,h1,h2,rfl⟩:=(h.ed u).1 hu;have h3:=hs.inN h1;obtain⟨w,hw,aa⟩:=h.rfxL hs m h3.1;have h4:=h.lt _ hw;have h5:=h.lt _ h3.2;have hn:=hs.n;dsimp only;rw[aa];exact Iv (Lj oM) (Lj oM) (Dp (hs.ok s (AY h1))).1
theorem Ax.step (hs:Bx N sl) (h:Ax N sl L F E La Fo) {m:Nat} (hr:Rnd E m):Ax N sl (nZ E m L) (fun i=>F i∨ChE sl E i) (edN (Hm E m) E) (Du 2 1 (Hm E m) La) (Fo++(Al E).map fun t=>⟨t.c2,0,0,0,0⟩)∧(E≠[]→(edN (Hm E m) E).length<E.length):=by
 have he:=h.eok hs;have ab:=h.edm hs m;have am:(edN (Hm E m) E).length+(E.filter fun t=>decide (rfx (Hm E m) t.c0=rfx (Hm E m) t.c1)).length=E.length:=by
  have e1:(edN (Hm E m) E).length=E.countP fun t=>decide (rfx (Hm E m) t.c0≠rfx (Hm E m) t.c1):=by unfold edN;rw[←List.countP_eq_length_filter,ab.countP_eq,List.countP_map];rfl
  have e2:=List.length_eq_countP_add_countP (fun t:T5=>decide (rfx (Hm E m) t.c0=rfx (Hm E m) t.c1)) (l:=E);rw[←List.countP_eq_length_filter,e1,e2,Nat.add_comm];congr 1;refine List.countP_congr fun t _=>?_;simp
 have an:(Al E).length≤2*(E.filter fun t=>decide (rfx (Hm E m) t.c0=rfx (Hm E m) t.c1)).length:=by
  rw[←bV];have ah:(Al E).Nodup:=he.cho.1.imp fun {a b} hh e=>by rw[e] at hh;omega
  refine ah.length_le_of_subset fun z hz=>?_;obtain⟨t,ht,ae⟩:=Sw hz;refine Me.2 ⟨t,BQ.2 ⟨ht,decide_eq_true ?_⟩,ae⟩;have:=h.rfx_ch hs hr hz;rcases ae with rfl|rfl
  ·exact this
  ·exact this.symm
 refine⟨⟨?_,?_,?_,?_,?_,?_,?_,?_⟩,fun aa=>?_⟩
 ·refine(lU (h.ok2 hs)).trans ((h.lab.map _).trans ?_);rw[CH];refine DD (CM fun v hv=>?_);have:=h.nxI hs m (BD.1 hv);simp only[Function.comp_apply];rw[this]
 ·intro v hv;obtain⟨w,hw,ai⟩:=h.rfxL hs m hv;unfold nZ;rw[ai];exact h.lt w hw
 ·intro v w hv hw;have ao:=h.nxI hs m hv;have aq:=h.nxI hs m hw;constructor
  ·intro heq;have ag:∀{a:Nat},a<N→∃b,b<N∧(L b:Int)=rfx (Hm E m) (L a)∧Cn (gE (sl.map Cw)) (fun i=>F i∨ChE sl E i) a b:=by
    intro a ha;obtain⟨b,hb,ac⟩:=h.rfxL hs m ha;refine⟨b,hb,ac.symm,?_⟩;by_cases hd:Dm E (L a)
    ·refine h.hang hs m hd ha rfl hb ?_;rw[←ac];exact Xj he _ (fun u hu=>h.pos hs hu m) hd
    ·rw[show rfx (Hm E m) (L a)=(L a:Int) from lV _ hd] at ac;exact((h.cn a b ha hb).1 oM).mono fun i hi=> .inl hi
   obtain⟨b,hb,ac,aj⟩:=ag hv;obtain⟨c,hc,au,ak⟩:=ag hw;have h1:L b=L c:=oM;exact(aj.trans (((h.cn b c hb hc).1 h1).mono fun i hi=> .inl hi)).trans ak.symm
  ·intro hc;have:=hc.stay (X:=fun y=>nZ E m L y=nZ E m L v) rfl fun i hi=>by obtain⟨s,h1,h2⟩:=h.taken hs hr hi;rw[Qr h1];dsimp only;rw[h2]
   exact this.symm
 ·rintro i (hi|hi)
  ·exact h.kr i hi
  ·obtain⟨s,t,h1,h2,h3,h4,h5,h6⟩:=h.chE hs hi;refine Kr.cut (X:=fun w=>(L w:Int)=t.c0) (AK.1 h1).1 ?_ ?_
   ·rw[Qr h1];dsimp only;rcases h5 with⟨a,b⟩|⟨a,b⟩
    ·rw[a];exact fun hh=>h4 (by have:=hh.1 rfl;omega)
    ·rw[a];exact fun hh=>h4 (by have:=hh.2 rfl;omega)
   ·intro j hj av;have hu:sl[j]? =some sl[j]:=AG hj;rw[Qr hu];dsimp only;refine BX fun ad=>?_;have aa:L (sl[j]).c1.toNat≠L (sl[j]).c2.toNat:=fun e=>ad (by rw[e]);have al:(L (sl[j]).c1.toNat:Int)=t.c0∨(L (sl[j]).c2.toNat:Int)=t.c0:=by
     by_cases ha:(L (sl[j]).c1.toNat:Int)=t.c0
     ·exact .inl ha
     ·by_cases hb:(L (sl[j]).c2.toNat:Int)=t.c0
      ·exact .inr hb
      ·exact absurd ⟨fun hh=>absurd hh ha,fun hh=>absurd hh hb⟩ ad
    have:=h6 j _ hu aa al;omega
 ·intro x;rw[AS,AN];constructor
  ·rintro(hx|⟨t,ht,rfl⟩)
   ·obtain⟨i,s,a,b,c⟩:=(h.fo x).1 hx;exact⟨i,s,a,.inl b,c⟩
   ·obtain⟨i,s,g1,_,g3,_⟩:=h.cho hs ht;exact⟨i,s,g1,.inr ⟨s,t,g1,ht,g3⟩,by rw[g3]⟩
  ·rintro⟨i,s,a,b|⟨s',t,b1,b2,b3⟩,rfl⟩
   ·exact .inl ((h.fo _).2 ⟨i,s,a,b,rfl⟩)
   ·rw[a] at b1;cases b1;exact .inr ⟨t,b2,by rw[b3]⟩
 ·intro t;unfold edN;rw[BQ,ab.mem_iff,AN];constructor
  ·rintro⟨⟨u,hu,rfl⟩,aa⟩;obtain⟨i,s,h1,h2,rfl⟩:=(h.ed u).1 hu;have h3:=hs.inN h1;have e1:=h.nxI hs m h3.1;have e2:=h.nxI hs m h3.2;have aa:=of_decide_eq_true aa;dsimp only at aa⊢;refine⟨i,s,h1,fun e=>aa (by rw[←e1,←e2,e]),by rw[e1,e2]⟩
  ·rintro⟨i,s,h1,h2,rfl⟩;have h3:=hs.inN h1;have e1:=h.nxI hs m h3.1;have e2:=h.nxI hs m h3.2;refine⟨⟨⟨(L s.c1.toNat:Int),(L s.c2.toNat:Int),s.c0,0,0⟩,(h.ed _).2 ⟨i,s,h1,fun e=>h2 ?_,rfl⟩,by dsimp only;rw[e1,e2]⟩,decide_eq_true ?_⟩
   ·unfold nZ;rw[e]
   ·dsimp only;omega
 ·unfold edN;refine List.Pairwise.sublist List.filter_sublist ?_;refine(ab.pairwise_iff (R:=fun a c:T5=>a.c2≠c.c2) (fun hh=>fun e=>hh e.symm)).2 ?_;exact BA.2 (h.nd.imp fun hh=>hh)
 ·have:=h.len;rw[AH,AR];omega
 ·have:Al E≠[]:=by
   obtain⟨t,l,rfl⟩:∃t l,E=t::l:=by
    cases E with
    |nil=>exact absurd rfl aa
    |cons t l=>exact⟨t,l,rfl⟩
   obtain⟨z,hz,_⟩:=he.cho.2.2 t (Me.2 ⟨t,AE,.inl rfl⟩);intro e;rw[e] at hz;cases hz
  have:0<(Al E).length:=List.length_pos_iff.2 this;omega
end
def edgO (t:T5):List T5:=if t.c1=t.c2 then[] else[⟨t.c1,t.c2,t.c0,0,0⟩]
def Jl (l:List T5):List T5:=l.flatMap edgO
def lab0 (N:Nat):List T5:=(BE N).map fun (v:Nat)=>⟨(v:Int),(v:Int),0,0,0⟩
abbrev slS (l:List T5):List T5:=srt (ltO o1) false l
def Mf (La:List T5):List T5:=srt (ltO o1) true (srt (ltO o12) false (La.map fun t=>⟨t.c1,t.c0,0,0,0⟩))
def labF (La:List T5):List T5:=srt (ltO o1) false (Du 2 1 (Mf La) La)
def treF (Fo l:List T5):List T5:=((srt (ltO o1) true Fo).map (Bf (slS l) 0 1 1)).map (Bf (slS l) 0 2 2)
theorem yQ {a b:List T5} (ha:a.Pairwise fun x y=>x.c0<y.c0) (hb:b.Pairwise fun x y=>x.c0<y.c0) (h:∀z,z∈a↔z∈b):a=b:=by
 have na:a.Nodup:=ha.imp fun {x y} hh e=>by rw[e] at hh;omega
 have nb:b.Nodup:=hb.imp fun {x y} hh e=>by rw[e] at hh;omega
 have hp:a.Perm b:=by
  rw[List.perm_iff_count];intro x;have k1:=List.nodup_iff_count.1 na x;have k2:=List.nodup_iff_count.1 nb x;by_cases hx:x∈a
  ·have h4:=List.count_pos_iff.2 hx;have h5:=List.count_pos_iff.2 ((h x).1 hx);omega
  ·have h4:=List.count_eq_zero.2 hx;have h5:=List.count_eq_zero.2 fun hy=>hx ((h x).2 hy);omega
 exact hp.eq_of_pairwise (le:=fun x y=>x.c0<y.c0) (fun x y _ _ h1 h2=>absurd h1 oM) ha hb
theorem lX {l:List T5} {z:T5}:z∈Jl l↔∃t∈l,t.c1≠t.c2∧z=⟨t.c1,t.c2,t.c0,0,0⟩:=by
 unfold Jl;rw[BZ];refine exists_congr fun t=>and_congr_right fun _=>?_;unfold edgO;by_cases h:t.c1=t.c2
 ·rw[if_pos h];simp[h]
 ·rw[if_neg h];simp[h]
theorem cB:∀l:List T5,(Jl l).length≤l.length
 |[]=>AI _
 |t::l=>by
  have:=cB l;unfold Jl at this⊢;rw[A7,AH];have h:(edgO t).length≤1:=by unfold edgO;split<;>simp
  simp only[AJ];omega
theorem lY:∀{l:List T5},(l.Pairwise fun a c=>a.c0≠c.c0)→(Jl l).Pairwise fun a c=>a.c2≠c.c2
 |[],_=>DH
 |t::l,h=>by
  obtain⟨h1,h2⟩:=BF.1 h;have ih:=lY h2;unfold Jl at ih⊢;rw[A7,B8];refine⟨by unfold edgO;split<;>simp,ih,fun a ha b hb=>?_⟩;obtain⟨u,hu,_,rfl⟩:=lX.1 (show b∈Jl l from hb);unfold edgO at ha;split at ha
  ·cases ha
  ·simp only[AW] at ha;subst ha;exact h1 u hu
theorem slOk {N:Nat} {l:List T5} (hN:N≤1000000) (h:Ic N l) (aa:∀t∈l,okT 3 t):Bx N (slS l) where
 n:=hN
 ed t ht:=h.1 t ((Bs l).mem_iff.1 ht)
 lt:=lL h.2
 ok t ht:=aa t ((Bs l).mem_iff.1 ht)
theorem lZ {l:List T5} {s:T5}:s∈l↔∃i:Nat,(slS l)[i]? =some s:=by rw[←(Bs (lt:=ltO o1) l).mem_iff,CZ]
theorem cinv0 {N:Nat} {l:List T5} (hN:N≤1000000) (h:Ic N l):Ax N (slS l) id (fun _=>False) (Jl l) (lab0 N) [] where
 lab:= .refl _
 lt v hv:=hv
 cn v w hv hw:=by
  constructor
  ·intro e;have e:v=w:=e;subst e;exact .refl _
  ·intro hc;exact(hc.stay (X:=fun y=>y=v) rfl fun i hi=>absurd hi id).symm
 kr i hi:=absurd hi id
 fo x:=by simp
 ed t:=by
  rw[lX];constructor
  ·rintro⟨s,hs,aa,rfl⟩;obtain⟨i,hi⟩:=lZ.1 hs;obtain⟨_,h1,h2,_,_⟩:=h.1 s hs;refine⟨i,s,hi,fun e=>aa ?_,?_⟩
   ·have e:s.c1.toNat=s.c2.toNat:=e;omega
   ·simp only[id];rw[DK h1,DK h2]
  ·rintro⟨i,s,hi,aa,rfl⟩;have hs:=lZ.2 ⟨i,hi⟩;obtain⟨_,h1,h2,_,_⟩:=h.1 s hs;refine⟨s,hs,fun e=>aa (by rw[e]),?_⟩;simp only[id];rw[DK h1,DK h2]
 nd:=lY h.2
 len:=by have h1:=cB l;have h2:(slS l).length=l.length:=(Bs (lt:=ltO o1) l).length_eq;simp only[AO];omega
section
variable {N:Nat} {sl:List T5} {L:Nat→Nat} {F:Nat→Prop} {La Fo:List T5}
theorem Ax.all (hs:Bx N sl) (h:Ax N sl L F [] La Fo) {i:Nat} {s:T5} (hi:sl[i]? =some s):L s.c1.toNat=L s.c2.toNat:=by refine BX fun aa=>?_;have:=(h.ed _).2 ⟨i,s,hi,aa,rfl⟩;cases this
theorem Ax.conn (hs:Bx N sl) (h:Ax N sl L F [] La Fo) {i:Nat} (hi:i<sl.length):Cn (gE (sl.map Cw)) F (gE (sl.map Cw) i).1 (gE (sl.map Cw) i).2:=by have h1:sl[i]? =some sl[i]:=AG hi;have h2:=hs.inN h1;rw[Qr h1];exact(h.cn _ _ h2.1 h2.2).1 (h.all hs h1)
theorem Ax.isKr (hs:Bx N sl) (h:Ax N sl L F [] La Fo) (i:Nat):F i↔Kr (gE (sl.map Cw)) (fun j=>j<sl.length) i:=
 ⟨h.kr i,fun hk=>vQ (F:=Kr (gE (sl.map Cw)) (fun j=>j<sl.length)) (C:=F) (fun i hi=>Kr.bridge hi) h.kr (fun i hi=>h.conn hs hi.1) i hk⟩
theorem Bx.stay (hs:Bx N sl) {a b:Nat} (ha:a<N) (h:Cn (gE (sl.map Cw)) (fun j=>j<sl.length) a b):b<N:=by refine h.stay (X:=fun y=>y<N) ha fun i hi=>?_;have h1:sl[i]? =some sl[i]:=AG hi;have h2:=hs.inN h1;rw[Qr h1];exact⟨fun _=>h2.2,fun _=>h2.1⟩
def Pm (N:Nat) (L:Nat→Nat) (La:List T5):List Int:=(BE N).map fun v=>rfx (Mf La) (L v)
theorem Ax.frs (hs:Bx N sl) {E:List T5} (h:Ax N sl L F E La Fo) {v:Nat} (hv:v<N):∃x,x<N∧rfx (Mf La) (L v)=(x:Int)∧L x=L v∧∀w,w<N→L w=L v→x≤w:=by
 have ac:=h.ok2 hs;have hm:∀t∈La.map (fun t:T5=>(⟨t.c1,t.c0,0,0,0⟩:T5)),okT 2 t:=by intro t ht;obtain⟨u,hu,rfl⟩:=AN.1 ht;have:=Dp (ac u hu);exact Hk this.2.1 this.1
 have aa:∀w,w<N→(⟨(L w:Int),(w:Int),0,0,0⟩:T5)∈La.map (fun t:T5=>(⟨t.c1,t.c0,0,0,0⟩:T5)):=by intro w hw;refine AN.2 ⟨⟨(w:Int),(L w:Int),0,0,0⟩,h.lab.mem_iff.2 (AN.2 ⟨w,BD.2 hw,rfl⟩),rfl⟩
 obtain⟨z,hz,ab⟩:∃z∈Mf La,z.c0=(L v:Int):=by obtain⟨w,hw,he⟩:=aI (o:=o1) (once:=true) ((Bs (lt:=ltO o12) _).mem_iff.2 (aa v hv));exact⟨w,hw,(Qj.1 he).symm⟩
 obtain⟨h1,h2⟩:=(iY hm).1 hz;obtain⟨t,ht,rfl⟩:=AN.1 h1;obtain⟨x,hx,rfl⟩:=AN.1 (h.lab.mem_iff.1 ht);have ad:=BD.1 hx;dsimp only at ab h2;refine⟨x,ad,?_,oM,fun w hw he=>?_⟩
 ·unfold rfx;have e1:lkV (Mf La) (L v:Int) 1=_:=Ix (v:=1) (Ox _) hz ab;rw[e1];show(if(x:Int)≠-1 then(x:Int) else _)=_;rw[if_pos oM]
 ·have:=h2 _ (aa w hw) oD;dsimp only at this;omega
theorem Ax.labOk (hs:Bx N sl) (h:Ax N sl L F [] La Fo):En (gE (sl.map Cw)) (fun j=>j<sl.length) N (-1) (Pm N L La) where
 len:=by simp[Pm]
 at_ v hv hw:=by
  obtain⟨x,hx,h1,h2,h3⟩:=h.frs hs hv;refine⟨x,?_,?_,h3 v hv rfl,fun u hu=>?_⟩
  ·unfold Pm;rw[BM,CO hv,Option.map_some,h1]
  ·exact((h.cn v x hv hx).1 h2.symm).mono fun i hi=>(h.kr i hi).1
  ·have hc:=hu.sub (S':=F) fun i hi=>h.conn hs hi;have aa:=hs.stay hv hu;exact h3 u aa ((h.cn v u hv aa).2 hc).symm
 out v hv hw:=by omega
theorem Ax.labIs (hs:Bx N sl) {E:List T5} (h:Ax N sl L F E La Fo):labF La=Ay (Pm N L La):=by
 have hl:(Pm N L La).length=N:=by simp[Pm]
 unfold Go.Proofs.YtaofijjjheiknaaGreat.labF Ay;rw[hl];refine bU ?_ ?_
 ·refine(lU (h.ok2 hs)).trans ((h.lab.map _).trans ?_);rw[CH];refine DD (CM fun v hv=>?_);have hv:=BD.1 hv;simp only[Function.comp_apply];unfold Pm;rw[AP,BM,CO hv];rfl
 ·rw[BA];exact List.pairwise_lt_range.imp fun hh=>by dsimp only;omega
open Classical in
noncomputable def Qs (sl:List T5) (F:Nat→Prop):List Bool:=(BE sl.length).map fun i=>decide (F i)
theorem cC {sl:List T5} {F:Nat→Prop} {i:Nat} (hi:i<sl.length):∃b,(Qs sl F)[i]? =some b∧(b=true↔F i):=by unfold Qs;rw[BM,CO hi];exact⟨_,rfl,@decide_eq_true_iff _ (Classical.propDecidable _)⟩
theorem Ax.forOk (hs:Bx N sl) (h:Ax N sl L F [] La Fo):Ub (sl.map Cw) (Qs sl F):=by
 refine⟨by simp[Qs],fun i b hb=>?_⟩;have hi:i<sl.length:=by have:=(AK.1 hb).1;simpa[Qs] using this
 obtain⟨b',h1,h2⟩:=cC (F:=F) hi;rw[hb] at h1;cases h1;rw[AR,h2];exact h.isKr hs i
theorem yR {sl:List T5} {fl:List Bool} {z:T5}:z∈Ba sl fl↔∃(i:Nat) (s:T5),sl[i]? =some s∧fl[i]? =some true∧z=⟨s.c0,s.c1,s.c2,0,0⟩:=by
 unfold Ba;rw[List.mem_filterMap];constructor
 ·rintro⟨⟨s,b⟩,hm,he⟩;obtain⟨i,hi⟩:=CZ.1 hm;rw[D8] at hi;cases b with
  |false=>simp at he
  |true=>
   simp only[if_true,BG] at he;exact⟨i,s,hi.1,hi.2,he.symm⟩
 ·rintro⟨i,s,h1,h2,rfl⟩;exact⟨(s,true),CZ.2 ⟨i,D8.2 ⟨h1,h2⟩⟩,rfl⟩
theorem yS {sl:List T5} {fl:List Bool} (h:sl.Pairwise fun a c=>a.c0<c.c0):(Ba sl fl).Pairwise fun a c=>a.c0<c.c0:=by
 unfold Ba;rw[List.pairwise_filterMap];rw[A9];intro i j hi hj aa a ha b hb;rw[List.length_zip] at hi hj;have h1:=A9.1 h i j oM oM aa;rw[List.getElem_zip] at ha hb;split at ha
 ·split at hb
  ·simp only[Option.mem_def,BG] at ha hb;subst ha hb;exact h1
  ·cases hb
 ·cases ha
theorem Ax.treIs {l:List T5} (hs:Bx N (slS l)) {E:List T5} (h:Ax N (slS l) L F E La Fo) (hF:∀i,F i→i<(slS l).length):treF Fo l=Ba (slS l) (Qs (slS l) F):=by
 have aa:∀{i:Nat} {s:T5},(slS l)[i]? =some s→Bf (slS l) 0 2 2 (Bf (slS l) 0 1 1 ⟨s.c0,0,0,0,0⟩)=⟨s.c0,s.c1,s.c2,0,0⟩:=by intro i s hi;have hm:=AY hi;have e1:=Ix (v:=1) hs.lt hm rfl;have e2:=Ix (v:=2) hs.lt hm rfl;show Dq (Dq _ 1 (lkV (slS l) s.c0 1)) 2 (lkV (slS l) s.c0 2)=_;rw[e1,e2];rfl
 have ab:∀{x:T5},x∈srt (ltO o1) true Fo↔x∈Fo:=by intro x;refine⟨Io,fun hx=>?_⟩;obtain⟨w,hw,he⟩:=aI (o:=o1) (once:=true) hx;have e0:=Qj.1 he;obtain⟨i,s,_,_,rfl⟩:=(h.fo x).1 hx;obtain⟨j,u,_,_,rfl⟩:=(h.fo w).1 (Io hw);dsimp only at e0;rw[e0];exact hw
 refine yQ ?_ (yS hs.lt) fun z=>?_
 ·unfold Go.Proofs.YtaofijjjheiknaaGreat.treF;rw[BA,BA];exact(Ox Fo).imp fun hh=>hh
 ·rw[yR];unfold Go.Proofs.YtaofijjjheiknaaGreat.treF;rw[CH,AN];constructor
  ·rintro⟨x,hx,rfl⟩;obtain⟨i,s,h1,h2,rfl⟩:=(h.fo x).1 (ab.1 hx);obtain⟨b,h3,h4⟩:=cC (sl:=slS l) (F:=F) (hF i h2);refine⟨i,s,h1,?_,(aa h1)⟩;rw[h3,h4.2 h2]
  ·rintro⟨i,s,h1,h2,rfl⟩;have hi:=(AK.1 h1).1;obtain⟨b,h3,h4⟩:=cC (sl:=slS l) (F:=F) hi;rw[h2] at h3;cases h3;exact⟨⟨s.c0,0,0,0,0⟩,ab.2 ((h.fo _).2 ⟨i,s,h1,h4.1 rfl,rfl⟩),aa h1⟩
end
theorem Ax.spec {N:Nat} {l:List T5} {L:Nat→Nat} {F:Nat→Prop} {La Fo:List T5} (hs:Bx N (slS l)) (h:Ax N (slS l) L F [] La Fo):My N l (labF La) (treF Fo l):=
 ⟨slS l,Qs (slS l) F,Pm N L La,Bs l,Sh l,h.labOk hs,h.forOk hs,h.labIs hs,h.treIs hs fun i hi=>(h.kr i hi).1⟩
end Go.Proofs.YtaofijjjheiknaaGreat
